/-
  Build, the program's and the document's: too long, and right.
-/
import Derived.Test.YtpggbbjhbklamaaIcS
import Derived.Test.YtpggbbjhbklamaaBBx
namespace Go.Proofs.Ytpggbbjhbklamaa
open Go.RowKit

set_option maxHeartbeats 1000000 in
set_option maxRecDepth 20000 in
theorem ibuild_long (V : Int) (bs bs2 : List Int) (T C R : Int) (dv : Value) (d : List Int) (w : World) (h : IsA V bs) (h2 : IsA V bs2) (hp : pairA V bs V bs2 = true) (hV : V = 4 ∨ V = 6) (hT : 0 ≤ T ∧ T ≤ 255) (hC : 0 ≤ C ∧ C ≤ 255) (hd : Rb w dv d) (hl : d.length ≤ 140737488355328) (hn : imost V < (8 + d.length : Int)) :
    Calls Try.prog 9 #[.agg (addrC V bs), .agg (addrC V bs2), .agg (msgC V T C R dv)] w (APost w (.tuple #[.slice none 0 0, .int .i64 3])) := by
  have L1 := h.len
  have L2 := h2.len
  obtain ⟨va, vb⟩ := pairA_parts hp
  have OF1 := hid (fun W => (show Calls Try.prog 19 #[.agg (addrC V bs), .int .i64 V] W (APost W (.bool true)) from by have := of_any V bs V W h; rwa [va, show (V == V) = true by simp] at this))
  have OF2 := hid (fun W => (show Calls Try.prog 19 #[.agg (addrC V bs2), .int .i64 V] W (APost W (.bool true)) from by have := of_any V bs2 V W h2; rwa [vb, show (V == V) = true by simp] at this))
  have MO := hid (fun W => imost_any V W)
  obtain ⟨ad, cd, rfl, _, hmd, _⟩ := hd.open
  have P := hid (fun en w' (h1 : en = .returned (.tuple #[.slice none 0 0, .int .i64 3])) (h2 : Sp w w' []) => show APost w (.tuple #[.slice none 0 0, .int .i64 3]) en w' from ⟨h1, h2.bel⟩)
  have S : Hid (Sp w (((w.alloc (.cells (addrC V bs) 24)).alloc (.cells (addrC V bs2) 24)).alloc (.cells (msgC V T C R (.slice ad d.length cd)) 28)) [.blk (w.heap.size + 2) (msgC V T C R (.slice ad d.length cd)) 28, .blk (w.heap.size + 1) (addrC V bs2) 24, .blk w.heap.size (addrC V bs) 24]) := hid (Sp.in3 ..)
  have t1 : decide (T < 0) = false := by simp; omega
  have t2 : decide (255 < T) = false := by simp; omega
  have t3 : decide (C < 0) = false := by simp; omega
  have t4 : decide (255 < C) = false := by simp; omega
  have t5 : IntKind.i64.wrap (8 + (d.length : Int)) = 8 + (d.length : Int) := IntWalk.i64_in _ (by omega)
  have t6 : decide (imost V < 8 + (d.length : Int)) = true := by simp; omega
  have hv : ((V != 4) = false) ∨ ((V != 4) = true ∧ (V != 6) = false) := by
    rcases hV with rfl | rfl
    · exact .inl rfl
    · exact .inr ⟨rfl, rfl⟩
  clear h h2 hp hV hd hn hl va vb hmd hT hC
  generalize imost V = mv at *
  unfold msgC at *
  go_enter Try.func9, Try.ntmps9
  go_upto_region 1 with fail
  generalize (((w.alloc (.cells (addrC V bs) 24)).alloc (.cells (addrC V bs2) 24)).alloc (.cells _ 28)) = w' at *
  generalize hb0 : w.heap.size = b at *
  rcases hv with hv4 | ⟨hv4, hv6⟩
  all_goals (
  go_upto_region 3 with (first
    | go_skip
    | ((with_reducible show wpList _ _ _ _ _ _); first | (((with_reducible show wpList _ _ _ (⟨_, .load 24 _, _, _, _, _⟩ :: _) _ _); first | (refine wpList_getS (by rfl) _ _ rfl S.out _ rfl 0 _ _ rfl _ (by rfl) Try.underlying24 (by rw [addr_info]; exact congrArg some (addr_cells (by first | rfl | assumption)).symm) ?_) | (refine wpList_getS (by rfl) _ _ rfl S.out _ rfl 1 _ _ rfl _ (by rfl) Try.underlying24 (by rw [addr_info]; exact congrArg some (addr_cells (by first | rfl | assumption)).symm) ?_) | (refine wpList_getS (by rfl) _ _ rfl S.out _ rfl 2 _ _ rfl _ (by rfl) Try.underlying24 (by rw [addr_info]; exact congrArg some (addr_cells (by first | rfl | assumption)).symm) ?_) | (refine wpList_getS (by rfl) _ _ rfl S.out _ rfl 3 _ _ rfl _ (by rfl) Try.underlying24 (by rw [addr_info]; exact congrArg some (addr_cells (by first | rfl | assumption)).symm) ?_) | (refine wpList_getS (by rfl) _ _ rfl S.out _ rfl 4 _ _ rfl _ (by rfl) Try.underlying24 (by rw [addr_info]; exact congrArg some (addr_cells (by first | rfl | assumption)).symm) ?_) | (refine wpList_getS (by rfl) _ _ rfl S.out _ rfl 5 _ _ rfl _ (by rfl) Try.underlying24 (by rw [addr_info]; exact congrArg some (addr_cells (by first | rfl | assumption)).symm) ?_))) | ((with_reducible show wpList _ _ _ (⟨_, .load _ _, _, _, _, _⟩ :: _) _ _); first | (refine wpList_getC (by rfl) _ _ rfl S.out _ _ rfl 0 _ _ rfl _ (by first | exact msg_0 .. | exact msg_1 .. | exact msg_2 .. | exact msg_3 .. | exact msg_4 ..) (by rfl) ?_) | (refine wpList_getC (by rfl) _ _ rfl S.out _ _ rfl 1 _ _ rfl _ (by first | exact msg_0 .. | exact msg_1 .. | exact msg_2 .. | exact msg_3 .. | exact msg_4 ..) (by rfl) ?_) | (refine wpList_getC (by rfl) _ _ rfl S.out _ _ rfl 2 _ _ rfl _ (by first | exact msg_0 .. | exact msg_1 .. | exact msg_2 .. | exact msg_3 .. | exact msg_4 ..) (by rfl) ?_)))
    | (go_at_call 19; first | ((have M3 := M2); refine (OF2.out _).mono ?_; rintro en w' ⟨rfl, hb⟩; replace S := hid (S.out.keep hb); clear hb) | (refine (OF1.out _).mono ?_; have M2 := True.intro; rintro en w' ⟨rfl, hb⟩; replace S := hid (S.out.keep hb); clear hb))))
  all_goals (
  have c0 := S.out.cellC 0 rfl (msg_0 ..)
  have c4 := S.out.cellC 0 rfl (msg_4 ..)
  go_quiet ((go_at_call 20; exact quiet_any (MO.out _)))
  have S9 := hid (S.out.keep ((Same.drewN w' nq).below _))
  go_wp2_with fail
  go_ret2
  exact P.out _ _ rfl S9.out.nil)
set_option maxHeartbeats 1000000 in
set_option maxRecDepth 20000 in
theorem rbuild_right (V : Int) (bs bs2 : List Int) (T C R : Int) (dv : Value) (d : List Int) (w : World) (h : IsA V bs) (h2 : IsA V bs2) (hp : pairA V bs V bs2 = true) (hV : V = 4 ∨ V = 6) (hT : 0 ≤ T ∧ T ≤ 255) (hC : 0 ≤ C ∧ C ≤ 255) (hR : 0 ≤ R ∧ R ≤ 4294967295) (hd : Rb w dv d) (hl : d.length ≤ 140737488355328) :
    Calls Try.prog 10 #[.agg (addrC V bs), .agg (addrC V bs2), .agg (msgC V T C R dv)] w fun en w' =>
      (imost V < (8 + d.length : Int) → APost w (.tuple #[.slice none 0 0, .int .i64 3]) en w') ∧ ((8 + d.length : Int) ≤ imost V → BB 0 (8 + d.length) (iB V bs bs2 T C R d) w en w') := by
  have L1 := h.len
  have L2 := h2.len
  have hm : imost V ≤ 65535 := by unfold imost; split <;> omega
  have hm0 : 65515 ≤ imost V := by unfold imost; split <;> omega
  obtain ⟨va, vb⟩ := pairA_parts hp
  have OF1 := hid (fun W => (show Calls Try.prog 28 #[.agg (addrC V bs), .int .i64 V] W (APost W (.bool true)) from by have := raddr_any V bs V W h; rwa [va, show (V == V) = true by simp] at this))
  have OF2 := hid (fun W => (show Calls Try.prog 28 #[.agg (addrC V bs2), .int .i64 V] W (APost W (.bool true)) from by have := raddr_any V bs2 V W h2; rwa [vb, show (V == V) = true by simp] at this))
  have MO := hid (fun W => rmost_any V W)
  have HD := hid hd
  have yl := iL_byt (s := 0) hT hC hR (by decide) hd.byt
  have CK := hid (fun W v (hv : Rb W v (iL T C R 0 d)) (h6 : (iL T C R 0 d).length ≤ 65535) => (show Calls Try.prog 30 #[.agg (addrC V bs), .agg (addrC V bs2), .int .i64 V, v] W (APost W (.int .i64 (chkL V bs bs2 (iL T C R 0 d)))) from by have := rsum_any V bs bs2 v _ W h h2 hv h6; rwa [iL_zero] at this))
  have hs := hid (fun (h6 : (iL T C R 0 d).length ≤ 65535) => chkL_bd (V := V) h.byt h2.byt yl h6)
  have eB : iB V bs bs2 T C R d = ((iL T C R 0 d).set 2 (chkL V bs bs2 (iL T C R 0 d) / 256)).set 3 (chkL V bs bs2 (iL T C R 0 d) % 256) := rfl
  have LL := iL_len T C R 0 d
  have LH := hid (show [T, C, 0, 0, R / 16777216, R / 65536 % 256, R / 256 % 256, R % 256] ++ d = iL T C R 0 d from rfl)
  generalize chkL V bs bs2 (iL T C R 0 d) = s at *
  generalize hl0 : iL T C R 0 d = l0 at *
  generalize hbb : iB V bs bs2 T C R d = bb at *
  obtain ⟨ad, cd, rfl, _, hmd, _⟩ := hd.open
  unfold maxLen at hmd
  have P := hid (fun w' a c (hle : (8 + d.length : Int) ≤ imost V) (h2 : Sp w w' [.row (.slice a (8 + d.length) c) 5 1 (8 + d.length) (bts ((l0.set 2 (s / 256)).set 3 (s % 256)))]) => show (fun en w' => (imost V < (8 + d.length : Int) → APost w (.tuple #[.slice none 0 0, .int .i64 3]) en w') ∧ ((8 + d.length : Int) ≤ imost V → BB 0 (8 + d.length) bb w en w')) (.returned (.tuple #[.slice a (8 + d.length) c, .int .i64 0])) w' from ⟨fun h => by omega, fun _ => ⟨a, c, rfl, by rw [eB]; exact h2⟩⟩)
  have P3 := hid (fun w' (hlt : imost V < (8 + d.length : Int)) (h2 : Sp w w' []) => show (fun en w' => (imost V < (8 + d.length : Int) → APost w (.tuple #[.slice none 0 0, .int .i64 3]) en w') ∧ ((8 + d.length : Int) ≤ imost V → BB 0 (8 + d.length) bb w en w')) (.returned (.tuple #[.slice none 0 0, .int .i64 3])) w' from ⟨fun _ => ⟨rfl, h2.bel⟩, fun h => by omega⟩)
  have S : Hid (Sp w (((w.alloc (.cells (addrC V bs) 24)).alloc (.cells (addrC V bs2) 24)).alloc (.cells (msgC V T C R (.slice ad d.length cd)) 28)) [.blk (w.heap.size + 2) (msgC V T C R (.slice ad d.length cd)) 28, .blk (w.heap.size + 1) (addrC V bs2) 24, .blk w.heap.size (addrC V bs) 24]) := hid (Sp.in3 ..)
  have t1 : decide (T < 0) = false := by simp; omega
  have t2 : decide (255 < T) = false := by simp; omega
  have t3 : decide (C < 0) = false := by simp; omega
  have t4 : decide (255 < C) = false := by simp; omega
  have t5 : IntKind.i64.wrap (imost V - 8) = imost V - 8 := IntWalk.i64_in _ (by omega)
  have s3 : IntKind.u8.wrap T = T := IntWalk.u8_in _ (by omega)
  have s4 : IntKind.u8.wrap C = C := IntWalk.u8_in _ (by omega)
  have r1 : IntKind.u8.wrap (R / 16777216) = R / 16777216 := IntWalk.u8_in _ (by omega)
  have r2 : IntKind.u8.wrap (R / 65536 % 256) = R / 65536 % 256 := IntWalk.u8_in _ (by omega)
  have r3 : IntKind.u8.wrap (R / 256 % 256) = R / 256 % 256 := IntWalk.u8_in _ (by omega)
  have r4 : IntKind.u8.wrap (R % 256) = R % 256 := IntWalk.u8_in _ (by omega)
  have YL := hid yl
  have hv : ((V != 4) = false) ∨ ((V != 4) = true ∧ (V != 6) = false) := by
    rcases hV with rfl | rfl
    · exact .inl rfl
    · exact .inr ⟨rfl, rfl⟩
  clear h h2 hp hV hd va vb eB hl0 hbb
  generalize imost V = mv at *
  replace LL := hid LL
  unfold msgC at *
  by_cases hlong : mv < (8 + d.length : Int)
  · have t6 : decide (mv - 8 < (d.length : Int)) = true := by simp; omega
    replace hlong := hid hlong
    clear hm hm0 hl
    go_enter Try.func10, Try.ntmps10
    go_upto_region 1 with fail
    generalize (((w.alloc (.cells (addrC V bs) 24)).alloc (.cells (addrC V bs2) 24)).alloc (.cells _ 28)) = w' at *
    generalize hb0 : w.heap.size = b at *
    rcases hv with hv4 | ⟨hv4, hv6⟩
    all_goals (
    go_upto_region 3 with (first
      | go_skip
      | ((with_reducible show wpList _ _ _ _ _ _); first | (((with_reducible show wpList _ _ _ (⟨_, .load 24 _, _, _, _, _⟩ :: _) _ _); first | (refine wpList_getS (by rfl) _ _ rfl S.out _ rfl 0 _ _ rfl _ (by rfl) Try.underlying24 (by rw [addr_info]; exact congrArg some (addr_cells (by first | rfl | assumption)).symm) ?_) | (refine wpList_getS (by rfl) _ _ rfl S.out _ rfl 1 _ _ rfl _ (by rfl) Try.underlying24 (by rw [addr_info]; exact congrArg some (addr_cells (by first | rfl | assumption)).symm) ?_) | (refine wpList_getS (by rfl) _ _ rfl S.out _ rfl 2 _ _ rfl _ (by rfl) Try.underlying24 (by rw [addr_info]; exact congrArg some (addr_cells (by first | rfl | assumption)).symm) ?_) | (refine wpList_getS (by rfl) _ _ rfl S.out _ rfl 3 _ _ rfl _ (by rfl) Try.underlying24 (by rw [addr_info]; exact congrArg some (addr_cells (by first | rfl | assumption)).symm) ?_) | (refine wpList_getS (by rfl) _ _ rfl S.out _ rfl 4 _ _ rfl _ (by rfl) Try.underlying24 (by rw [addr_info]; exact congrArg some (addr_cells (by first | rfl | assumption)).symm) ?_) | (refine wpList_getS (by rfl) _ _ rfl S.out _ rfl 5 _ _ rfl _ (by rfl) Try.underlying24 (by rw [addr_info]; exact congrArg some (addr_cells (by first | rfl | assumption)).symm) ?_))) | ((with_reducible show wpList _ _ _ (⟨_, .load _ _, _, _, _, _⟩ :: _) _ _); first | (refine wpList_getC (by rfl) _ _ rfl S.out _ _ rfl 0 _ _ rfl _ (by first | exact msg_0 .. | exact msg_1 .. | exact msg_2 .. | exact msg_3 .. | exact msg_4 ..) (by rfl) ?_) | (refine wpList_getC (by rfl) _ _ rfl S.out _ _ rfl 1 _ _ rfl _ (by first | exact msg_0 .. | exact msg_1 .. | exact msg_2 .. | exact msg_3 .. | exact msg_4 ..) (by rfl) ?_) | (refine wpList_getC (by rfl) _ _ rfl S.out _ _ rfl 2 _ _ rfl _ (by first | exact msg_0 .. | exact msg_1 .. | exact msg_2 .. | exact msg_3 .. | exact msg_4 ..) (by rfl) ?_)))
      | (go_at_call 28; first | ((have M3 := M2); refine (OF2.out _).mono ?_; rintro en w' ⟨rfl, hb⟩; replace S := hid (S.out.keep hb); clear hb) | (refine (OF1.out _).mono ?_; have M2 := True.intro; rintro en w' ⟨rfl, hb⟩; replace S := hid (S.out.keep hb); clear hb))))
    all_goals (
    have c0 := S.out.cellC 0 rfl (msg_0 ..)
    have c4 := S.out.cellC 0 rfl (msg_4 ..)
    go_quiet ((go_at_call 29; exact quiet_any (MO.out _)))
    have S9 := hid (S.out.keep ((Same.drewN w' nq).below _))
    go_wp2_with fail
    go_ret2
    exact P3.out _ hlong.out S9.out.nil)
  · have t6 : decide (mv - 8 < (d.length : Int)) = false := by simp; omega
    have h65 : 8 + d.length ≤ 65535 := by omega
    have hs2 := hs.out (by rw [LL.out]; exact h65)
    have CK2 := hid (fun W v (hv : Rb W v l0) => CK.out W v hv (by rw [LL.out]; exact h65))
    have u1 : IntKind.u8.wrap (s / 256) = s / 256 := IntWalk.u8_in _ (by omega)
    have u2 : IntKind.u8.wrap (s % 256) = s % 256 := IntWalk.u8_in _ (by omega)
    have HLE := hid (show (8 + d.length : Int) ≤ mv by omega)
    have hs3 := hid hs2
    clear hm hm0 hl hs2 CK hs
    go_enter Try.func10, Try.ntmps10
    go_upto_region 1 with fail
    generalize (((w.alloc (.cells (addrC V bs) 24)).alloc (.cells (addrC V bs2) 24)).alloc (.cells _ 28)) = w' at *
    generalize hb0 : w.heap.size = b at *
    replace hb0 := hid hb0
    rcases hv with hv4 | ⟨hv4, hv6⟩
    all_goals (
    go_upto_region 3 with (first
      | go_skip
      | ((with_reducible show wpList _ _ _ _ _ _); first | (((with_reducible show wpList _ _ _ (⟨_, .load 24 _, _, _, _, _⟩ :: _) _ _); first | (refine wpList_getS (by rfl) _ _ rfl S.out _ rfl 0 _ _ rfl _ (by rfl) Try.underlying24 (by rw [addr_info]; exact congrArg some (addr_cells (by first | rfl | assumption)).symm) ?_) | (refine wpList_getS (by rfl) _ _ rfl S.out _ rfl 1 _ _ rfl _ (by rfl) Try.underlying24 (by rw [addr_info]; exact congrArg some (addr_cells (by first | rfl | assumption)).symm) ?_) | (refine wpList_getS (by rfl) _ _ rfl S.out _ rfl 2 _ _ rfl _ (by rfl) Try.underlying24 (by rw [addr_info]; exact congrArg some (addr_cells (by first | rfl | assumption)).symm) ?_) | (refine wpList_getS (by rfl) _ _ rfl S.out _ rfl 3 _ _ rfl _ (by rfl) Try.underlying24 (by rw [addr_info]; exact congrArg some (addr_cells (by first | rfl | assumption)).symm) ?_) | (refine wpList_getS (by rfl) _ _ rfl S.out _ rfl 4 _ _ rfl _ (by rfl) Try.underlying24 (by rw [addr_info]; exact congrArg some (addr_cells (by first | rfl | assumption)).symm) ?_) | (refine wpList_getS (by rfl) _ _ rfl S.out _ rfl 5 _ _ rfl _ (by rfl) Try.underlying24 (by rw [addr_info]; exact congrArg some (addr_cells (by first | rfl | assumption)).symm) ?_))) | ((with_reducible show wpList _ _ _ (⟨_, .load _ _, _, _, _, _⟩ :: _) _ _); first | (refine wpList_getC (by rfl) _ _ rfl S.out _ _ rfl 0 _ _ rfl _ (by first | exact msg_0 .. | exact msg_1 .. | exact msg_2 .. | exact msg_3 .. | exact msg_4 ..) (by rfl) ?_) | (refine wpList_getC (by rfl) _ _ rfl S.out _ _ rfl 1 _ _ rfl _ (by first | exact msg_0 .. | exact msg_1 .. | exact msg_2 .. | exact msg_3 .. | exact msg_4 ..) (by rfl) ?_) | (refine wpList_getC (by rfl) _ _ rfl S.out _ _ rfl 2 _ _ rfl _ (by first | exact msg_0 .. | exact msg_1 .. | exact msg_2 .. | exact msg_3 .. | exact msg_4 ..) (by rfl) ?_)))
      | (go_at_call 28; first | ((have M3 := M2); refine (OF2.out _).mono ?_; rintro en w' ⟨rfl, hb⟩; replace S := hid (S.out.keep hb); clear hb) | (refine (OF1.out _).mono ?_; have M2 := True.intro; rintro en w' ⟨rfl, hb⟩; replace S := hid (S.out.keep hb); clear hb))))
    all_goals (
    have c0 := S.out.cellC 0 rfl (msg_0 ..)
    have c4 := S.out.cellC 0 rfl (msg_4 ..)
    go_quiet ((go_at_call 29; exact quiet_any (MO.out _)))
    obtain ⟨w3, hw3⟩ : ∃ w3, w3 = w'.drewN nq := ⟨_, rfl⟩
    rw [← hw3]
    replace S := hid (show Sp w w3 _ from S.out.keep (by rw [hw3]; exact (Same.drewN _ _).below _))
    clear hw3 c0 c4 w'
    generalize w3 = w' at *
    go_upto_region 8 with (first
      | go_skip
      | ((with_reducible show wpList _ _ _ (_ :: _) _ (World.alloc _ (.cells _ 5))); refine wpList_world fun w' hw2 => ?_; replace S := hid (S.out.lit (l := [T, C, 0, 0, R / 16777216, R / 65536 % 256, R / 256 % 256, R % 256]) (n := 8) hw2 rfl rfl (by decide)); clear hw2)
      | ((with_reducible show wpList _ _ _ _ _ _); first
          | ((with_reducible show wpList _ _ _ (⟨_, .load _ _, _, _, _, _⟩ :: _) _ _); first | (refine wpList_getC (by rfl) _ _ rfl S.out _ _ rfl 0 _ _ rfl _ (by first | exact msg_0 .. | exact msg_1 .. | exact msg_2 .. | exact msg_3 .. | exact msg_4 ..) (by rfl) ?_) | (refine wpList_getC (by rfl) _ _ rfl S.out _ _ rfl 1 _ _ rfl _ (by first | exact msg_0 .. | exact msg_1 .. | exact msg_2 .. | exact msg_3 .. | exact msg_4 ..) (by rfl) ?_) | (refine wpList_getC (by rfl) _ _ rfl S.out _ _ rfl 2 _ _ rfl _ (by first | exact msg_0 .. | exact msg_1 .. | exact msg_2 .. | exact msg_3 .. | exact msg_4 ..) (by rfl) ?_))
          | (at_builtin; refine wpList_grow (by rfl) _ _ rfl S.out 0 rfl rfl _ d rfl (HD.out.below S.out.bel) (8 + d.length) (by rfl) (by omega) ?_; rintro ca cc w' hS; simp only [List.set_cons_zero] at hS; rw [LH.out] at hS; replace S := hid hS; clear hS)))
    have hsb := hs3.out
    obtain ⟨g8, c8, hv8⟩ := S.out.rowopen 0 rfl (by omega)
    simp only [Value.slice.injEq, true_and] at hv8
    obtain ⟨rfl, rfl⟩ := hv8
    go_wp2_with (first
      | go_skip
      | ((with_reducible show wpList _ _ _ _ _ _); first | ((with_reducible show wpList _ _ _ (⟨_, .load 24 _, _, _, _, _⟩ :: _) _ _); first | (refine wpList_getS (by rfl) _ _ rfl S.out _ rfl 2 _ _ rfl _ (by rfl) Try.underlying24 (by rw [addr_info]; exact congrArg some (addr_cells (by first | rfl | assumption)).symm) ?_) | (refine wpList_getS (by rfl) _ _ rfl S.out _ rfl 3 _ _ rfl _ (by rfl) Try.underlying24 (by rw [addr_info]; exact congrArg some (addr_cells (by first | rfl | assumption)).symm) ?_)) | ((with_reducible show wpList _ _ _ (⟨_, .load _ _, _, _, _, _⟩ :: _) _ _); refine wpList_getC (by rfl) _ _ rfl S.out _ _ rfl 1 _ _ rfl _ (by first | exact msg_0 .. | exact msg_1 .. | exact msg_2 .. | exact msg_3 .. | exact msg_4 ..) (by rfl) ?_) | ((with_reducible show wpList _ _ _ (⟨_, .store _ _ _, _, _, _, _⟩ :: _) _ _); refine wpList_put_row (by rfl) _ _ rfl rfl S.out _ _ rfl _ rfl 0 _ _ _ rfl (by omega) ?_; intro w' hS; simp only [List.set] at hS; replace S := hid hS; clear hS))
      | (go_at_call 30; refine (CK2.out _ _ (S.out.rb 0 rfl YL.out)).mono ?_; rintro en w' ⟨rfl, hb⟩; replace S := hid (S.out.keep hb); clear hb))
    go_ret2
    exact P.out _ _ _ HLE.out (S.out.sub (by repeat (first | exact List.Sublist.refl _ | exact List.nil_sublist _ | apply List.Sublist.cons_cons | apply List.Sublist.cons))))
end Go.Proofs.Ytpggbbjhbklamaa
