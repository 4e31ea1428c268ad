/-
  package icmp: Build of a right message.
-/
import Derived.Test.YtpggbbjhbklamaaIcA
import Derived.Test.YtpggbbjhbklamaaBBx
namespace Go.Proofs.Ytpggbbjhbklamaa
open Go.RowKit

/-- a message's cells -/
def msgC (V T C R : Int) (bv : Value) : Array Value := #[.int .i64 V, .int .i64 T, .int .i64 C, .int .u32 R, bv]
theorem msg_0 (V T C R : Int) (bv : Value) : (msgC V T C R bv)[0]? = some (.int .i64 V) := rfl
theorem msg_1 (V T C R : Int) (bv : Value) : (msgC V T C R bv)[1]? = some (.int .i64 T) := rfl
theorem msg_2 (V T C R : Int) (bv : Value) : (msgC V T C R bv)[2]? = some (.int .i64 C) := rfl
theorem msg_3 (V T C R : Int) (bv : Value) : (msgC V T C R bv)[3]? = some (.int .u32 R) := rfl
theorem msg_4 (V T C R : Int) (bv : Value) : (msgC V T C R bv)[4]? = some bv := rfl
theorem pairA_parts {V : Int} {bs bs2 : List Int} (h : pairA V bs V bs2 = true) : validA V bs = true ∧ validA V bs2 = true := by
  unfold pairA at h
  simp only [Bool.and_eq_true] at h
  exact ⟨h.1.2, h.2⟩
set_option maxHeartbeats 1000000 in
set_option maxRecDepth 20000 in
theorem ibuild_yes (V : Int) (bs bs2 : List Int) (T C R : Int) (dv : Value) (d : List Int) (w : World) (h : IsA V bs) (h2 : IsA V bs2) (hp : pairA V bs V bs2 = true) (hV : V = 4 ∨ V = 6) (hT : 0 ≤ T ∧ T ≤ 255) (hC : 0 ≤ C ∧ C ≤ 255) (hR : 0 ≤ R ∧ R ≤ 4294967295) (hd : Rb w dv d) (hn : (8 + d.length : Int) ≤ imost V) :
    Calls Try.prog 9 #[.agg (addrC V bs), .agg (addrC V bs2), .agg (msgC V T C R dv)] w (BB 0 (8 + d.length) (iB V bs bs2 T C R d) w) := by
  have L1 := h.len
  have L2 := h2.len
  have hm : imost V ≤ 65535 := by unfold imost; split <;> omega
  obtain ⟨va, vb⟩ := pairA_parts hp
  have OF1 := hid (fun W => (show Calls Try.prog 19 #[.agg (addrC V bs), .int .i64 V] W (APost W (.bool true)) from by have := of_any V bs V W h; rwa [va, show (V == V) = true by simp] at this))
  have OF2 := hid (fun W => (show Calls Try.prog 19 #[.agg (addrC V bs2), .int .i64 V] W (APost W (.bool true)) from by have := of_any V bs2 V W h2; rwa [vb, show (V == V) = true by simp] at this))
  have MO := hid (fun W => imost_any V W)
  have HD := hid hd
  have yl := iL_byt (s := 0) hT hC hR (by decide) hd.byt
  have CK := hid (fun W v (hv : Rb W v (iL T C R 0 d)) => check_any V bs bs2 v _ W h h2 hp hv (by rw [iL_len]; omega))
  have hs := chkL_bd (V := V) h.byt h2.byt yl (by rw [iL_len]; omega)
  have eB : iB V bs bs2 T C R d = ((iL T C R 0 d).set 2 (chkL V bs bs2 (iL T C R 0 d) / 256)).set 3 (chkL V bs bs2 (iL T C R 0 d) % 256) := rfl
  have LL := iL_len T C R 0 d
  have LH : [] ++ be 1 T ++ be 1 C ++ be 2 0 ++ be 4 R ++ d = iL T C R 0 d := by
    rw [be1' hT.1 hT.2, be1' hC.1 hC.2, be2' (v := 0) (by decide) (by decide), be4' hR.1 hR.2]
    rfl
  have LH := hid LH
  generalize chkL V bs bs2 (iL T C R 0 d) = s at *
  generalize hl0 : iL T C R 0 d = l0 at *
  generalize hbb : iB V bs bs2 T C R d = bb at *
  have DL := hid (fun (hne : d ≠ []) b (hb : dv.ownBlock = some b) => hd.lt hne hb)
  obtain ⟨ad, cd, rfl, _, hmd, _⟩ := hd.open
  unfold maxLen at hmd
  have P := hid (fun w' a c (h2 : Sp w w' [.row (.slice a (8 + d.length) c) 5 1 (8 + d.length) (bts ((l0.set 2 (s / 256)).set 3 (s % 256)))]) => show BB 0 (8 + d.length) bb w (.returned (.tuple #[.slice a (8 + d.length) c, .int .i64 0])) w' from ⟨a, c, rfl, by rw [eB]; exact h2⟩)
  have S : Hid (Sp w (((w.alloc (.cells (addrC V bs) 24)).alloc (.cells (addrC V bs2) 24)).alloc (.cells (msgC V T C R (.slice ad d.length cd)) 28)) [.blk (w.heap.size + 2) (msgC V T C R (.slice ad d.length cd)) 28, .blk (w.heap.size + 1) (addrC V bs2) 24, .blk w.heap.size (addrC V bs) 24]) := hid (Sp.in3 ..)
  have t1 : decide (T < 0) = false := by simp; omega
  have t2 : decide (255 < T) = false := by simp; omega
  have t3 : decide (C < 0) = false := by simp; omega
  have t4 : decide (255 < C) = false := by simp; omega
  have t5 : IntKind.i64.wrap (8 + (d.length : Int)) = 8 + (d.length : Int) := IntWalk.i64_in _ (by omega)
  have t6 : decide (imost V < 8 + (d.length : Int)) = false := by simp; omega
  have s3 : IntKind.u8.wrap T = T := IntWalk.u8_in _ (by omega)
  have s4 : IntKind.u8.wrap C = C := IntWalk.u8_in _ (by omega)
  have hd5 : d.length ≤ 65527 := by omega
  have YL := hid yl
  have hv : ((V != 4) = false) ∨ ((V != 4) = true ∧ (V != 6) = false) := by
    rcases hV with rfl | rfl
    · exact .inl rfl
    · exact .inr ⟨rfl, rfl⟩
  have u1 : IntKind.u8.wrap (s / 256) = s / 256 := IntWalk.u8_in _ (by omega)
  have u2 : IntKind.u8.wrap s = s % 256 := by
    show (s % 256 : Int) = _
    rfl
  clear h h2 hp hV hd hn hm va vb eB hl0 hbb
  generalize imost V = mv at *
  replace u1 := hid u1
  replace u2 := hid u2
  replace hs := hid hs
  replace LL := hid LL
  unfold msgC at *
  go_enter Try.func9, Try.ntmps9
  go_upto_region 1 with fail
  generalize (((w.alloc (.cells (addrC V bs) 24)).alloc (.cells (addrC V bs2) 24)).alloc (.cells _ 28)) = w' at *
  generalize hb0 : w.heap.size = b at *
  replace hb0 := hid hb0
  rcases hv with hv4 | ⟨hv4, hv6⟩
  all_goals (
  go_upto_region 3 with (first
    | go_skip
    | ((with_reducible show wpList _ _ _ _ _ _); first | (((with_reducible show wpList _ _ _ (⟨_, .load 24 _, _, _, _, _⟩ :: _) _ _); first | (refine wpList_getS (by rfl) _ _ rfl S.out _ rfl 0 _ _ rfl _ (by rfl) Try.underlying24 (by rw [addr_info]; exact congrArg some (addr_cells (by first | rfl | assumption)).symm) ?_) | (refine wpList_getS (by rfl) _ _ rfl S.out _ rfl 1 _ _ rfl _ (by rfl) Try.underlying24 (by rw [addr_info]; exact congrArg some (addr_cells (by first | rfl | assumption)).symm) ?_) | (refine wpList_getS (by rfl) _ _ rfl S.out _ rfl 2 _ _ rfl _ (by rfl) Try.underlying24 (by rw [addr_info]; exact congrArg some (addr_cells (by first | rfl | assumption)).symm) ?_) | (refine wpList_getS (by rfl) _ _ rfl S.out _ rfl 3 _ _ rfl _ (by rfl) Try.underlying24 (by rw [addr_info]; exact congrArg some (addr_cells (by first | rfl | assumption)).symm) ?_) | (refine wpList_getS (by rfl) _ _ rfl S.out _ rfl 4 _ _ rfl _ (by rfl) Try.underlying24 (by rw [addr_info]; exact congrArg some (addr_cells (by first | rfl | assumption)).symm) ?_) | (refine wpList_getS (by rfl) _ _ rfl S.out _ rfl 5 _ _ rfl _ (by rfl) Try.underlying24 (by rw [addr_info]; exact congrArg some (addr_cells (by first | rfl | assumption)).symm) ?_))) | ((with_reducible show wpList _ _ _ (⟨_, .load _ _, _, _, _, _⟩ :: _) _ _); first | (refine wpList_getC (by rfl) _ _ rfl S.out _ _ rfl 0 _ _ rfl _ (by first | exact msg_0 .. | exact msg_1 .. | exact msg_2 .. | exact msg_3 .. | exact msg_4 ..) (by rfl) ?_) | (refine wpList_getC (by rfl) _ _ rfl S.out _ _ rfl 1 _ _ rfl _ (by first | exact msg_0 .. | exact msg_1 .. | exact msg_2 .. | exact msg_3 .. | exact msg_4 ..) (by rfl) ?_)))
    | (go_at_call 19; first | ((have M3 := M2); refine (OF2.out _).mono ?_; rintro en w' ⟨rfl, hb⟩; replace S := hid (S.out.keep hb); clear hb) | (refine (OF1.out _).mono ?_; have M2 := True.intro; rintro en w' ⟨rfl, hb⟩; replace S := hid (S.out.keep hb); clear hb))))
  all_goals (
  have c0 := S.out.cellC 0 rfl (msg_0 ..)
  have c4 := S.out.cellC 0 rfl (msg_4 ..)
  go_quiet ((go_at_call 20; exact quiet_any (MO.out _)))
  obtain ⟨w3, hw3⟩ : ∃ w3, w3 = w'.drewN nq := ⟨_, rfl⟩
  rw [← hw3]
  replace S := hid (show Sp w w3 _ from S.out.keep (by rw [hw3]; exact (Same.drewN _ _).below _))
  clear hw3 c0 c4
  have S9 := S
  have LE := hid (show b ≤ w3.heap.size from by rw [← hb0.out]; exact S9.out.le)
  have B0 := hid (Below.refl w3.heap.size w3)
  have w' := w3
  go_upto_region 12 with (first
    | go_skip
    | ((with_reducible show wpList _ _ _ _ _ _); first | ((with_reducible show wpList _ _ _ (⟨_, .load 24 _, _, _, _, _⟩ :: _) _ _); first | (refine wpList_getS (by rfl) _ _ rfl S.out _ rfl 0 _ _ rfl _ (by rfl) Try.underlying24 (by rw [addr_info]; exact congrArg some (addr_cells (by first | rfl | assumption)).symm) ?_) | (refine wpList_getS (by rfl) _ _ rfl S.out _ rfl 1 _ _ rfl _ (by rfl) Try.underlying24 (by rw [addr_info]; exact congrArg some (addr_cells (by first | rfl | assumption)).symm) ?_) | (refine wpList_getS (by rfl) _ _ rfl S.out _ rfl 2 _ _ rfl _ (by rfl) Try.underlying24 (by rw [addr_info]; exact congrArg some (addr_cells (by first | rfl | assumption)).symm) ?_) | (refine wpList_getS (by rfl) _ _ rfl S.out _ rfl 3 _ _ rfl _ (by rfl) Try.underlying24 (by rw [addr_info]; exact congrArg some (addr_cells (by first | rfl | assumption)).symm) ?_) | (refine wpList_getS (by rfl) _ _ rfl S.out _ rfl 4 _ _ rfl _ (by rfl) Try.underlying24 (by rw [addr_info]; exact congrArg some (addr_cells (by first | rfl | assumption)).symm) ?_) | (refine wpList_getS (by rfl) _ _ rfl S.out _ rfl 5 _ _ rfl _ (by rfl) Try.underlying24 (by rw [addr_info]; exact congrArg some (addr_cells (by first | rfl | assumption)).symm) ?_)) | ((with_reducible show wpList _ _ _ (⟨_, .load _ _, _, _, _, _⟩ :: _) _ _); first | (refine wpList_getC (by rfl) _ _ rfl S.out _ _ rfl 0 _ _ rfl _ (by first | exact msg_0 .. | exact msg_1 .. | exact msg_2 .. | exact msg_3 .. | exact msg_4 ..) (by rfl) ?_) | (refine wpList_getC (by rfl) _ _ rfl S.out _ _ rfl 1 _ _ rfl _ (by first | exact msg_0 .. | exact msg_1 .. | exact msg_2 .. | exact msg_3 .. | exact msg_4 ..) (by rfl) ?_)))
    | (go_at_call 21; refine (wnew_own 65575 _ (by decide) (by decide)).mono ?_; rintro en w' ⟨wb, rfl, hW, hb⟩; have WW := hid hW; replace B0 := hid hb; replace S := hid (S9.out.keep B0.out); clear hW hb)
    | (go_at_call 22; refine (w8_own _ wb _ _ _ _ WW.out (by omega) (by omega) (by simp only [List.length_append, be_length, List.length_nil]; omega)).mono ?_; rintro en w' ⟨rfl, hW, hb⟩; replace WW := hid hW; replace B0 := hid (B0.out.trans hb); replace S := hid (S9.out.keep B0.out); clear hW hb)
    | (go_at_call 23; refine (w16_own _ wb _ _ _ _ WW.out (by omega) (by omega) (by simp only [List.length_append, be_length, List.length_nil]; omega)).mono ?_; rintro en w' ⟨rfl, hW, hb⟩; replace WW := hid hW; replace B0 := hid (B0.out.trans hb); replace S := hid (S9.out.keep B0.out); clear hW hb)
    | (go_at_call 24; refine (w32_own _ wb _ _ _ _ WW.out (by simp only [List.length_append, be_length, List.length_nil]; omega)).mono ?_; rintro en w' ⟨rfl, hW, hb⟩; replace WW := hid hW; replace B0 := hid (B0.out.trans hb); replace S := hid (S9.out.keep B0.out); clear hW hb)
    | (go_at_call 25; refine (wBytes_own _ wb _ d _ _ _ WW.out (HD.out.below S.out.bel) (fun hne b hb => by have := DL.out hne b hb; have := LE.out; omega) (by simp only [List.length_append, be_length, List.length_nil]; omega) (by omega)).mono ?_; rintro en w' ⟨rfl, hW, hb⟩; replace WW := hid hW; replace B0 := hid (B0.out.trans hb); replace S := hid (S9.out.keep B0.out); clear hW hb; rw [LH.out] at WW)
    | (go_at_call 26; refine (wOut_own _ wb _ _ _ WW.out).mono ?_; rintro en w' ⟨v8, rfl, ho, hb⟩; rw [LL.out] at ho; replace S := hid (S.out.call (Sp.ofOwn ho hb)); simp only [List.cons_append, List.nil_append] at S; clear ho hb))
  have LL2 := LL.out
  have hsb := hs.out
  obtain ⟨g8, c8, hv8⟩ := S.out.rowopen 0 rfl (by omega)
  subst hv8
  have x1 := u1.out
  have x2 := u2.out
  clear WW B0 S9 LE
  go_wp2_with (first
    | go_skip
    | ((with_reducible show wpList _ _ _ _ _ _); first | ((with_reducible show wpList _ _ _ (⟨_, .load 24 _, _, _, _, _⟩ :: _) _ _); first | (refine wpList_getS (by rfl) _ _ rfl S.out _ rfl 0 _ _ rfl _ (by rfl) Try.underlying24 (by rw [addr_info]; exact congrArg some (addr_cells (by first | rfl | assumption)).symm) ?_) | (refine wpList_getS (by rfl) _ _ rfl S.out _ rfl 1 _ _ rfl _ (by rfl) Try.underlying24 (by rw [addr_info]; exact congrArg some (addr_cells (by first | rfl | assumption)).symm) ?_) | (refine wpList_getS (by rfl) _ _ rfl S.out _ rfl 2 _ _ rfl _ (by rfl) Try.underlying24 (by rw [addr_info]; exact congrArg some (addr_cells (by first | rfl | assumption)).symm) ?_) | (refine wpList_getS (by rfl) _ _ rfl S.out _ rfl 3 _ _ rfl _ (by rfl) Try.underlying24 (by rw [addr_info]; exact congrArg some (addr_cells (by first | rfl | assumption)).symm) ?_) | (refine wpList_getS (by rfl) _ _ rfl S.out _ rfl 4 _ _ rfl _ (by rfl) Try.underlying24 (by rw [addr_info]; exact congrArg some (addr_cells (by first | rfl | assumption)).symm) ?_) | (refine wpList_getS (by rfl) _ _ rfl S.out _ rfl 5 _ _ rfl _ (by rfl) Try.underlying24 (by rw [addr_info]; exact congrArg some (addr_cells (by first | rfl | assumption)).symm) ?_)) | ((with_reducible show wpList _ _ _ (⟨_, .store _ _ _, _, _, _, _⟩ :: _) _ _); refine wpList_put_row (by rfl) _ _ rfl rfl S.out _ _ rfl _ rfl 0 _ _ _ rfl (by omega) ?_; intro w' hS; simp only [List.set] at hS; replace S := hid hS; clear hS))
    | (go_at_call 27; refine (CK.out _ _ (S.out.rb 0 rfl YL.out)).mono ?_; rintro en w' ⟨rfl, hb⟩; replace S := hid (S.out.keep hb); clear hb))
  go_ret2
  exact P.out _ _ _ (S.out.sub (by repeat (first | exact List.Sublist.refl _ | exact List.nil_sublist _ | apply List.Sublist.cons_cons | apply List.Sublist.cons))))
end Go.Proofs.Ytpggbbjhbklamaa
