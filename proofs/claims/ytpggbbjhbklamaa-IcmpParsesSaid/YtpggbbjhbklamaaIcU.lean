/-
  Parse, the program's at wrong addresses, and the document's.
-/
import Derived.Test.YtpggbbjhbklamaaIcS
import Derived.Test.YtpggbbjhbklamaaGetB
import Derived.Test.YtpggbbjhbklamaaTree
namespace Go.Proofs.Ytpggbbjhbklamaa
open Go.RowKit

set_option maxHeartbeats 1000000 in
set_option maxRecDepth 20000 in
theorem iparse_bad (Va : Int) (bs : List Int) (Vb : Int) (bs2 : List Int) (bv : Value) (l : List Int) (w : World) (h : IsA Va bs) (h2 : IsA Vb bs2) (hb : Rb w bv l) (hbad : (((Va == Va) && validA Va bs) && ((Vb == Va) && validA Vb bs2)) = false) :
    Calls Try.prog 14 #[.agg (addrC Va bs), .agg (addrC Vb bs2), bv] w (APost w (.tuple #[.agg msg0, .int .i64 1])) := by
  have L1 := h.len
  have L2 := h2.len
  have OF1 := hid (fun W => of_any Va bs Va W h)
  have OF2 := hid (fun W => of_any Vb bs2 Va W h2)
  generalize ((Va == Va) && validA Va bs) = o1 at *
  generalize ((Vb == Va) && validA Vb bs2) = o2 at *
  obtain ⟨ad, cd, rfl, _, hmd, _⟩ := hb.open
  have P := hid (fun w' (h2 : Sp w w' []) => show APost w (.tuple #[.agg msg0, .int .i64 1]) (.returned (.tuple #[.agg msg0, .int .i64 1])) w' from ⟨rfl, h2.bel⟩)
  have S : Hid (Sp w (((w.alloc (.cells (addrC Va bs) 24)).alloc (.cells (addrC Vb bs2) 24)).alloc (.cells msg0 28)) [.blk (w.heap.size + 2) msg0 28, .blk (w.heap.size + 1) (addrC Vb bs2) 24, .blk w.heap.size (addrC Va bs) 24]) := hid (Sp.in3 ..)
  unfold msg0 at S
  clear h h2 hb hmd
  go_enter Try.func14, Try.ntmps14
  go_upto_region 1 with fail
  generalize (((w.alloc (.cells (addrC Va bs) 24)).alloc (.cells (addrC Vb bs2) 24)).alloc (.cells _ 28)) = w' at *
  generalize w.heap.size = b at *
  cases o1
  · go_wp2_with (first
      | go_skip
      | ((with_reducible show wpList _ _ _ _ _ _); first | ((with_reducible show wpList _ _ _ (⟨_, .load 24 _, _, _, _, _⟩ :: _) _ _); first | (refine wpList_getS (by rfl) _ _ rfl S.out _ rfl 0 _ _ rfl _ (by rfl) Try.underlying24 (by rw [addr_info]; exact congrArg some (addr_cells (by first | rfl | assumption)).symm) ?_) | (refine wpList_getS (by rfl) _ _ rfl S.out _ rfl 1 _ _ rfl _ (by rfl) Try.underlying24 (by rw [addr_info]; exact congrArg some (addr_cells (by first | rfl | assumption)).symm) ?_) | (refine wpList_getS (by rfl) _ _ rfl S.out _ rfl 2 _ _ rfl _ (by rfl) Try.underlying24 (by rw [addr_info]; exact congrArg some (addr_cells (by first | rfl | assumption)).symm) ?_) | (refine wpList_getS (by rfl) _ _ rfl S.out _ rfl 3 _ _ rfl _ (by rfl) Try.underlying24 (by rw [addr_info]; exact congrArg some (addr_cells (by first | rfl | assumption)).symm) ?_) | (refine wpList_getS (by rfl) _ _ rfl S.out _ rfl 4 _ _ rfl _ (by rfl) Try.underlying24 (by rw [addr_info]; exact congrArg some (addr_cells (by first | rfl | assumption)).symm) ?_) | (refine wpList_getS (by rfl) _ _ rfl S.out _ rfl 5 _ _ rfl _ (by rfl) Try.underlying24 (by rw [addr_info]; exact congrArg some (addr_cells (by first | rfl | assumption)).symm) ?_)) | ((with_reducible show wpList _ _ _ (⟨_, .load _ _, _, _, _, _⟩ :: _) _ _); first | (refine wpList_getC (by rfl) _ _ rfl S.out _ _ rfl 0 _ _ rfl _ (addrC_0 _ _) (by rfl) ?_) | (refine wpList_getC (by rfl) _ _ rfl S.out _ _ rfl 1 _ _ rfl _ (addrC_0 _ _) (by rfl) ?_) | (refine wpList_getC (by rfl) _ _ rfl S.out _ _ rfl 2 _ _ rfl _ (addrC_0 _ _) (by rfl) ?_) | (refine wpList_getC (by rfl) _ _ rfl S.out _ _ rfl 3 _ _ rfl _ (addrC_0 _ _) (by rfl) ?_) | (refine wpList_getC (by rfl) _ _ rfl S.out _ _ rfl 4 _ _ rfl _ (addrC_0 _ _) (by rfl) ?_) | (refine wpList_getC (by rfl) _ _ rfl S.out _ _ rfl 5 _ _ rfl _ (addrC_0 _ _) (by rfl) ?_)) | ((with_reducible show wpList _ _ _ (⟨_, .store _ _ _, _, _, _, _⟩ :: _) _ _); refine wpList_putS (by rfl) _ _ _ rfl rfl S.out _ msg0 rfl rfl 0 _ _ rfl msg_info rfl msg0_one ?_; intro w' hS; simp only [List.set] at hS; replace S := hid hS; clear hS))
      | (go_at_call 19; refine (OF1.out _).mono ?_; rintro en w' ⟨rfl, hb⟩; replace S := hid (S.out.keep hb); clear hb))
    refine post_msg Try.results14 rfl _ msg0 _ rfl rfl (S.out.heap 0 rfl) (by kernel_rfl) ?_
    exact P.out _ S.out.nil
  · cases o2
    · go_wp2_with (first
        | go_skip
        | ((with_reducible show wpList _ _ _ _ _ _); first | ((with_reducible show wpList _ _ _ (⟨_, .load 24 _, _, _, _, _⟩ :: _) _ _); first | (refine wpList_getS (by rfl) _ _ rfl S.out _ rfl 0 _ _ rfl _ (by rfl) Try.underlying24 (by rw [addr_info]; exact congrArg some (addr_cells (by first | rfl | assumption)).symm) ?_) | (refine wpList_getS (by rfl) _ _ rfl S.out _ rfl 1 _ _ rfl _ (by rfl) Try.underlying24 (by rw [addr_info]; exact congrArg some (addr_cells (by first | rfl | assumption)).symm) ?_) | (refine wpList_getS (by rfl) _ _ rfl S.out _ rfl 2 _ _ rfl _ (by rfl) Try.underlying24 (by rw [addr_info]; exact congrArg some (addr_cells (by first | rfl | assumption)).symm) ?_) | (refine wpList_getS (by rfl) _ _ rfl S.out _ rfl 3 _ _ rfl _ (by rfl) Try.underlying24 (by rw [addr_info]; exact congrArg some (addr_cells (by first | rfl | assumption)).symm) ?_) | (refine wpList_getS (by rfl) _ _ rfl S.out _ rfl 4 _ _ rfl _ (by rfl) Try.underlying24 (by rw [addr_info]; exact congrArg some (addr_cells (by first | rfl | assumption)).symm) ?_) | (refine wpList_getS (by rfl) _ _ rfl S.out _ rfl 5 _ _ rfl _ (by rfl) Try.underlying24 (by rw [addr_info]; exact congrArg some (addr_cells (by first | rfl | assumption)).symm) ?_)) | ((with_reducible show wpList _ _ _ (⟨_, .load _ _, _, _, _, _⟩ :: _) _ _); first | (refine wpList_getC (by rfl) _ _ rfl S.out _ _ rfl 0 _ _ rfl _ (addrC_0 _ _) (by rfl) ?_) | (refine wpList_getC (by rfl) _ _ rfl S.out _ _ rfl 1 _ _ rfl _ (addrC_0 _ _) (by rfl) ?_) | (refine wpList_getC (by rfl) _ _ rfl S.out _ _ rfl 2 _ _ rfl _ (addrC_0 _ _) (by rfl) ?_) | (refine wpList_getC (by rfl) _ _ rfl S.out _ _ rfl 3 _ _ rfl _ (addrC_0 _ _) (by rfl) ?_) | (refine wpList_getC (by rfl) _ _ rfl S.out _ _ rfl 4 _ _ rfl _ (addrC_0 _ _) (by rfl) ?_) | (refine wpList_getC (by rfl) _ _ rfl S.out _ _ rfl 5 _ _ rfl _ (addrC_0 _ _) (by rfl) ?_)) | ((with_reducible show wpList _ _ _ (⟨_, .store _ _ _, _, _, _, _⟩ :: _) _ _); refine wpList_putS (by rfl) _ _ _ rfl rfl S.out _ msg0 rfl rfl 0 _ _ rfl msg_info rfl msg0_one ?_; intro w' hS; simp only [List.set] at hS; replace S := hid hS; clear hS))
        | (go_at_call 19; first | ((have M3 := M2); refine (OF2.out _).mono ?_; rintro en w' ⟨rfl, hb⟩; replace S := hid (S.out.keep hb); clear hb) | (refine (OF1.out _).mono ?_; have M2 := True.intro; rintro en w' ⟨rfl, hb⟩; replace S := hid (S.out.keep hb); clear hb)))
      refine post_msg Try.results14 rfl _ msg0 _ rfl rfl (S.out.heap 0 rfl) (by kernel_rfl) ?_
      exact P.out _ S.out.nil
    · cases hbad
set_option maxHeartbeats 1000000 in
set_option maxRecDepth 20000 in
theorem rparse_bad (Va : Int) (bs : List Int) (Vb : Int) (bs2 : List Int) (bv : Value) (l : List Int) (w : World) (h : IsA Va bs) (h2 : IsA Vb bs2) (hb : Rb w bv l) (hbad : (((Va == Va) && validA Va bs) && ((Vb == Va) && validA Vb bs2)) = false) :
    Calls Try.prog 15 #[.agg (addrC Va bs), .agg (addrC Vb bs2), bv] w (APost w (.tuple #[.agg msg0, .int .i64 1])) := by
  have L1 := h.len
  have L2 := h2.len
  have OF1 := hid (fun W => raddr_any Va bs Va W h)
  have OF2 := hid (fun W => raddr_any Vb bs2 Va W h2)
  generalize ((Va == Va) && validA Va bs) = o1 at *
  generalize ((Vb == Va) && validA Vb bs2) = o2 at *
  obtain ⟨ad, cd, rfl, _, hmd, _⟩ := hb.open
  have P := hid (fun w' (h2 : Sp w w' []) => show APost w (.tuple #[.agg msg0, .int .i64 1]) (.returned (.tuple #[.agg msg0, .int .i64 1])) w' from ⟨rfl, h2.bel⟩)
  have S : Hid (Sp w (((w.alloc (.cells (addrC Va bs) 24)).alloc (.cells (addrC Vb bs2) 24)).alloc (.cells msg0 28)) [.blk (w.heap.size + 2) msg0 28, .blk (w.heap.size + 1) (addrC Vb bs2) 24, .blk w.heap.size (addrC Va bs) 24]) := hid (Sp.in3 ..)
  unfold msg0 at S
  clear h h2 hb hmd
  go_enter Try.func15, Try.ntmps15
  go_upto_region 1 with fail
  generalize (((w.alloc (.cells (addrC Va bs) 24)).alloc (.cells (addrC Vb bs2) 24)).alloc (.cells _ 28)) = w' at *
  generalize w.heap.size = b at *
  cases o1
  · go_wp2_with (first
      | go_skip
      | ((with_reducible show wpList _ _ _ _ _ _); first | ((with_reducible show wpList _ _ _ (⟨_, .load 24 _, _, _, _, _⟩ :: _) _ _); first | (refine wpList_getS (by rfl) _ _ rfl S.out _ rfl 0 _ _ rfl _ (by rfl) Try.underlying24 (by rw [addr_info]; exact congrArg some (addr_cells (by first | rfl | assumption)).symm) ?_) | (refine wpList_getS (by rfl) _ _ rfl S.out _ rfl 1 _ _ rfl _ (by rfl) Try.underlying24 (by rw [addr_info]; exact congrArg some (addr_cells (by first | rfl | assumption)).symm) ?_) | (refine wpList_getS (by rfl) _ _ rfl S.out _ rfl 2 _ _ rfl _ (by rfl) Try.underlying24 (by rw [addr_info]; exact congrArg some (addr_cells (by first | rfl | assumption)).symm) ?_) | (refine wpList_getS (by rfl) _ _ rfl S.out _ rfl 3 _ _ rfl _ (by rfl) Try.underlying24 (by rw [addr_info]; exact congrArg some (addr_cells (by first | rfl | assumption)).symm) ?_) | (refine wpList_getS (by rfl) _ _ rfl S.out _ rfl 4 _ _ rfl _ (by rfl) Try.underlying24 (by rw [addr_info]; exact congrArg some (addr_cells (by first | rfl | assumption)).symm) ?_) | (refine wpList_getS (by rfl) _ _ rfl S.out _ rfl 5 _ _ rfl _ (by rfl) Try.underlying24 (by rw [addr_info]; exact congrArg some (addr_cells (by first | rfl | assumption)).symm) ?_)) | ((with_reducible show wpList _ _ _ (⟨_, .load _ _, _, _, _, _⟩ :: _) _ _); first | (refine wpList_getC (by rfl) _ _ rfl S.out _ _ rfl 0 _ _ rfl _ (addrC_0 _ _) (by rfl) ?_) | (refine wpList_getC (by rfl) _ _ rfl S.out _ _ rfl 1 _ _ rfl _ (addrC_0 _ _) (by rfl) ?_) | (refine wpList_getC (by rfl) _ _ rfl S.out _ _ rfl 2 _ _ rfl _ (addrC_0 _ _) (by rfl) ?_) | (refine wpList_getC (by rfl) _ _ rfl S.out _ _ rfl 3 _ _ rfl _ (addrC_0 _ _) (by rfl) ?_) | (refine wpList_getC (by rfl) _ _ rfl S.out _ _ rfl 4 _ _ rfl _ (addrC_0 _ _) (by rfl) ?_) | (refine wpList_getC (by rfl) _ _ rfl S.out _ _ rfl 5 _ _ rfl _ (addrC_0 _ _) (by rfl) ?_)) | ((with_reducible show wpList _ _ _ (⟨_, .store _ _ _, _, _, _, _⟩ :: _) _ _); refine wpList_putS (by rfl) _ _ _ rfl rfl S.out _ msg0 rfl rfl 0 _ _ rfl msg_info rfl msg0_one ?_; intro w' hS; simp only [List.set] at hS; replace S := hid hS; clear hS))
      | (go_at_call 28; refine (OF1.out _).mono ?_; rintro en w' ⟨rfl, hb⟩; replace S := hid (S.out.keep hb); clear hb))
    refine post_msg Try.results15 rfl _ msg0 _ rfl rfl (S.out.heap 0 rfl) (by kernel_rfl) ?_
    exact P.out _ S.out.nil
  · cases o2
    · go_wp2_with (first
        | go_skip
        | ((with_reducible show wpList _ _ _ _ _ _); first | ((with_reducible show wpList _ _ _ (⟨_, .load 24 _, _, _, _, _⟩ :: _) _ _); first | (refine wpList_getS (by rfl) _ _ rfl S.out _ rfl 0 _ _ rfl _ (by rfl) Try.underlying24 (by rw [addr_info]; exact congrArg some (addr_cells (by first | rfl | assumption)).symm) ?_) | (refine wpList_getS (by rfl) _ _ rfl S.out _ rfl 1 _ _ rfl _ (by rfl) Try.underlying24 (by rw [addr_info]; exact congrArg some (addr_cells (by first | rfl | assumption)).symm) ?_) | (refine wpList_getS (by rfl) _ _ rfl S.out _ rfl 2 _ _ rfl _ (by rfl) Try.underlying24 (by rw [addr_info]; exact congrArg some (addr_cells (by first | rfl | assumption)).symm) ?_) | (refine wpList_getS (by rfl) _ _ rfl S.out _ rfl 3 _ _ rfl _ (by rfl) Try.underlying24 (by rw [addr_info]; exact congrArg some (addr_cells (by first | rfl | assumption)).symm) ?_) | (refine wpList_getS (by rfl) _ _ rfl S.out _ rfl 4 _ _ rfl _ (by rfl) Try.underlying24 (by rw [addr_info]; exact congrArg some (addr_cells (by first | rfl | assumption)).symm) ?_) | (refine wpList_getS (by rfl) _ _ rfl S.out _ rfl 5 _ _ rfl _ (by rfl) Try.underlying24 (by rw [addr_info]; exact congrArg some (addr_cells (by first | rfl | assumption)).symm) ?_)) | ((with_reducible show wpList _ _ _ (⟨_, .load _ _, _, _, _, _⟩ :: _) _ _); first | (refine wpList_getC (by rfl) _ _ rfl S.out _ _ rfl 0 _ _ rfl _ (addrC_0 _ _) (by rfl) ?_) | (refine wpList_getC (by rfl) _ _ rfl S.out _ _ rfl 1 _ _ rfl _ (addrC_0 _ _) (by rfl) ?_) | (refine wpList_getC (by rfl) _ _ rfl S.out _ _ rfl 2 _ _ rfl _ (addrC_0 _ _) (by rfl) ?_) | (refine wpList_getC (by rfl) _ _ rfl S.out _ _ rfl 3 _ _ rfl _ (addrC_0 _ _) (by rfl) ?_) | (refine wpList_getC (by rfl) _ _ rfl S.out _ _ rfl 4 _ _ rfl _ (addrC_0 _ _) (by rfl) ?_) | (refine wpList_getC (by rfl) _ _ rfl S.out _ _ rfl 5 _ _ rfl _ (addrC_0 _ _) (by rfl) ?_)) | ((with_reducible show wpList _ _ _ (⟨_, .store _ _ _, _, _, _, _⟩ :: _) _ _); refine wpList_putS (by rfl) _ _ _ rfl rfl S.out _ msg0 rfl rfl 0 _ _ rfl msg_info rfl msg0_one ?_; intro w' hS; simp only [List.set] at hS; replace S := hid hS; clear hS))
        | (go_at_call 28; first | ((have M3 := M2); refine (OF2.out _).mono ?_; rintro en w' ⟨rfl, hb⟩; replace S := hid (S.out.keep hb); clear hb) | (refine (OF1.out _).mono ?_; have M2 := True.intro; rintro en w' ⟨rfl, hb⟩; replace S := hid (S.out.keep hb); clear hb)))
      refine post_msg Try.results15 rfl _ msg0 _ rfl rfl (S.out.heap 0 rfl) (by kernel_rfl) ?_
      exact P.out _ S.out.nil
    · cases hbad
/-- two bytes as a number -/
theorem rget_any (bv : Value) (l : List Int) (k : Nat) (w : World) (hb : Rb w bv l) (hk : k + 2 ≤ l.length) : Calls Try.prog 38 #[bv, .int .i64 k] w fun en w' => en = .returned (.int .i64 (wordL l k)) ∧ Drw w w' := by
  have hx := hb.byt.bd k
  have hy := hb.byt.bd (k + 1)
  have e : Hid (wordL l k = 256 * gt l k + gt l (k + 1)) := hid rfl
  obtain ⟨a, cap, rfl, hc, hm, hz⟩ := hb.open
  unfold maxLen at hm
  clear hb
  rcases hz with h0 | ⟨b, off, rfl, hcell⟩
  · omega
  have c0 := hcell k (by omega)
  have c1 := hcell (k + 1) (by omega)
  clear hcell
  generalize gt l k = x at *
  generalize gt l (k + 1) = y at *
  have E := e
  generalize wordL l k = r at *
  have s1 : IntKind.i64.wrap ((k : Int) + 1) = (k : Int) + 1 := IntWalk.i64_in _ (by omega)
  go_enter Try.func38, Try.ntmps38
  go_wp2_with fail
  go_quiet (fail)
  go_wp2
  go_ret
  exact ⟨by rw [E.out]; rfl, ⟨_, rfl⟩⟩
/-- the document's copy -/
theorem rown_any (v : Value) (l : List Int) (w : World) (h : Rb w v l) (hl : l.length ≤ 140737488355328) : Calls Try.prog 39 #[v] w (Own1 l l.length w) := by
  have HB := hid h
  have hl' := hl
  have P := hid (fun w' a c (h2 : Sp w w' [.row (.slice a l.length c) 5 1 l.length (bts l)]) => show Own1 l l.length w (.returned (.slice a l.length c)) w' from ⟨a, c, rfl, h2⟩)
  obtain ⟨ad, cd, rfl, _, hmd, _⟩ := h.open
  have S : Hid (Sp w w [.row (.slice none 0 0) 5 1 0 (bts [])]) := hid ((Sp.refl w).nilrow 5 1)
  have w' := w
  clear h
  go_enter Try.func39, Try.ntmps39
  go_wp2_with (first
    | go_skip
    | ((with_reducible show wpList _ _ _ _ _ _); (at_builtin; refine wpList_grow (by rfl) _ _ rfl S.out 0 rfl rfl _ l rfl (HB.out.below S.out.bel) l.length (by simp) hl' ?_; rintro ca cc w' hS; simp only [List.set_cons_zero, List.nil_append] at hS; replace S := hid hS; clear hS)))
  go_ret
  exact P.out _ _ _ S.out
set_option maxHeartbeats 4000000 in
set_option maxRecDepth 20000 in
theorem rparse_any (V : Int) (bs bs2 : List Int) (bv : Value) (l : List Int) (w : World) (h : IsA V bs) (h2 : IsA V bs2) (hp : pairA V bs V bs2 = true) (hb : Rb w bv l) (hl : l.length ≤ 140737488355328) :
    Calls Try.prog 15 #[.agg (addrC V bs), .agg (addrC V bs2), bv] w (IPost V bs bs2 l w) := by
  have L1 := h.len
  have L2 := h2.len
  have hm : imost V ≤ 65535 := by unfold imost; split <;> omega
  obtain ⟨va, vb⟩ := pairA_parts hp
  have OF1 := hid (fun W => (show Calls Try.prog 28 #[.agg (addrC V bs), .int .i64 V] W (APost W (.bool true)) from by have := raddr_any V bs V W h; rwa [va, show (V == V) = true by simp] at this))
  have OF2 := hid (fun W => (show Calls Try.prog 28 #[.agg (addrC V bs2), .int .i64 V] W (APost W (.bool true)) from by have := raddr_any V bs2 V W h2; rwa [vb, show (V == V) = true by simp] at this))
  have MO := hid (fun W => rmost_any V W)
  have HB := hid hb
  have YB := hb.byt
  have YZ := zero23_byt YB
  have CK := hid (fun W v (hv : Rb W v l) (h6 : l.length ≤ 65535) => rsum_any V bs bs2 v _ W h h2 hv h6)
  have HS := hid (fun (h6 : l.length ≤ 65535) => chkL_bd (V := V) h.byt h2.byt YZ (by rw [zero23_len]; exact h6))
  have EW := hid (fun (h8 : 8 ≤ l.length) (hm8 : (l.length : Int) ≤ imost V) => (show iE V bs bs2 l = if wordL l 2 = chkL V bs bs2 (zero23 l) then 0 else 52 from by unfold iE; rw [if_neg (by omega), if_neg (by omega)]))
  have E1 := hid (fun (h8 : l.length < 8) => (show (20 : Int) = iE V bs bs2 l from by unfold iE; rw [if_pos h8]))
  have E2 := hid (fun (h8 : ¬ l.length < 8) (h9 : imost V < l.length) => (show (3 : Int) = iE V bs bs2 l from by unfold iE; rw [if_neg h8, if_pos h9]))
  have PE := hid (fun w' e (he : e = iE V bs bs2 l) (h0 : e ≠ 0) (hS : Sp w w' []) => IPost.err he h0 hS.bel)
  have PG := hid (fun w' sx cx (he : iE V bs bs2 l = 0) (hS : Sp w w' [.row (.slice sx (l.length - 8) cx) 5 1 (l.length - 8) (bts (l.drop 8))]) => (show IPost V bs bs2 l w (.returned (.tuple #[.agg (msgC V (gt l 0) (gt l 1) (iR l) (.slice sx (l.length - 8) cx)), .int .i64 0])) w' from ⟨fun hn => absurd he hn, fun _ => ⟨sx, cx, rfl, hS⟩⟩))
  generalize chkL V bs bs2 (zero23 l) = s at *
  obtain ⟨ad, cd, rfl, hcd, hmd, hz⟩ := hb.open
  unfold maxLen at hmd
  have S : Hid (Sp w (((w.alloc (.cells (addrC V bs) 24)).alloc (.cells (addrC V bs2) 24)).alloc (.cells msg0 28)) [.blk (w.heap.size + 2) msg0 28, .blk (w.heap.size + 1) (addrC V bs2) 24, .blk w.heap.size (addrC V bs) 24]) := hid (Sp.in3 ..)
  unfold msg0 at S
  clear h h2 hp hb va vb
  obtain ⟨mv, hmv⟩ : ∃ mv, mv = imost V := ⟨_, rfl⟩
  rw [← hmv] at hm MO EW E2
  clear hmv
  by_cases h8 : l.length < 8
  · have e1 := E1.out h8
    have d8 : decide ((l.length : Int) < 8) = true := by simp; omega
    replace e1 := hid e1
    clear HS EW E1 E2 hz hm
    go_enter Try.func15, Try.ntmps15
    go_upto_region 1 with fail
    generalize (((w.alloc (.cells (addrC V bs) 24)).alloc (.cells (addrC V bs2) 24)).alloc (.cells _ 28)) = w' at *
    generalize w.heap.size = b at *
    go_wp2_with (first | go_skip | ((with_reducible show wpList _ _ _ _ _ _); first | ((with_reducible show wpList _ _ _ (⟨_, .load 24 _, _, _, _, _⟩ :: _) _ _); first | (refine wpList_getS (by rfl) _ _ rfl S.out _ rfl 0 _ _ rfl _ (by rfl) Try.underlying24 (by rw [addr_info]; exact congrArg some (addr_cells (by first | rfl | assumption)).symm) ?_) | (refine wpList_getS (by rfl) _ _ rfl S.out _ rfl 1 _ _ rfl _ (by rfl) Try.underlying24 (by rw [addr_info]; exact congrArg some (addr_cells (by first | rfl | assumption)).symm) ?_) | (refine wpList_getS (by rfl) _ _ rfl S.out _ rfl 2 _ _ rfl _ (by rfl) Try.underlying24 (by rw [addr_info]; exact congrArg some (addr_cells (by first | rfl | assumption)).symm) ?_) | (refine wpList_getS (by rfl) _ _ rfl S.out _ rfl 3 _ _ rfl _ (by rfl) Try.underlying24 (by rw [addr_info]; exact congrArg some (addr_cells (by first | rfl | assumption)).symm) ?_) | (refine wpList_getS (by rfl) _ _ rfl S.out _ rfl 4 _ _ rfl _ (by rfl) Try.underlying24 (by rw [addr_info]; exact congrArg some (addr_cells (by first | rfl | assumption)).symm) ?_) | (refine wpList_getS (by rfl) _ _ rfl S.out _ rfl 5 _ _ rfl _ (by rfl) Try.underlying24 (by rw [addr_info]; exact congrArg some (addr_cells (by first | rfl | assumption)).symm) ?_)) | ((with_reducible show wpList _ _ _ (⟨_, .load _ _, _, _, _, _⟩ :: _) _ _); first | (refine wpList_getC (by rfl) _ _ rfl S.out _ _ rfl 0 _ _ rfl _ (addrC_0 _ _) (by rfl) ?_) | (refine wpList_getC (by rfl) _ _ rfl S.out _ _ rfl 1 _ _ rfl _ (addrC_0 _ _) (by rfl) ?_) | (refine wpList_getC (by rfl) _ _ rfl S.out _ _ rfl 2 _ _ rfl _ (addrC_0 _ _) (by rfl) ?_) | (refine wpList_getC (by rfl) _ _ rfl S.out _ _ rfl 3 _ _ rfl _ (addrC_0 _ _) (by rfl) ?_) | (refine wpList_getC (by rfl) _ _ rfl S.out _ _ rfl 4 _ _ rfl _ (addrC_0 _ _) (by rfl) ?_) | (refine wpList_getC (by rfl) _ _ rfl S.out _ _ rfl 5 _ _ rfl _ (addrC_0 _ _) (by rfl) ?_)) | ((with_reducible show wpList _ _ _ (⟨_, .store _ _ _, _, _, _, _⟩ :: _) _ _); refine wpList_putS (by rfl) _ _ _ rfl rfl S.out _ msg0 rfl rfl 0 _ _ rfl msg_info rfl msg0_one ?_; intro w' hS; simp only [List.set] at hS; replace S := hid hS; clear hS)) | (go_at_call 29; refine (MO.out _).mono ?_; rintro en w'' ⟨rfl, rfl⟩) | (go_at_call 28; first | ((have M3 := M2); refine (OF2.out _).mono ?_; rintro en w' ⟨rfl, hb⟩; replace S := hid (S.out.keep hb); clear hb) | (refine (OF1.out _).mono ?_; have M2 := True.intro; rintro en w' ⟨rfl, hb⟩; replace S := hid (S.out.keep hb); clear hb)))
    refine post_msg Try.results15 rfl _ msg0 _ rfl rfl (S.out.heap 0 rfl) (by kernel_rfl) ?_
    exact PE.out _ 20 e1.out (by decide) S.out.nil
  · have d8 : decide ((l.length : Int) < 8) = false := by simp; omega
    by_cases h9 : mv < l.length
    · have e1 := hid (E2.out h8 h9)
      have d9 : decide (mv < (l.length : Int)) = true := decide_eq_true h9
      clear HS EW E1 E2 hz hm
      go_enter Try.func15, Try.ntmps15
      go_upto_region 1 with fail
      generalize (((w.alloc (.cells (addrC V bs) 24)).alloc (.cells (addrC V bs2) 24)).alloc (.cells _ 28)) = w' at *
      generalize w.heap.size = b at *
      go_wp2_with (first | go_skip | ((with_reducible show wpList _ _ _ _ _ _); first | ((with_reducible show wpList _ _ _ (⟨_, .load 24 _, _, _, _, _⟩ :: _) _ _); first | (refine wpList_getS (by rfl) _ _ rfl S.out _ rfl 0 _ _ rfl _ (by rfl) Try.underlying24 (by rw [addr_info]; exact congrArg some (addr_cells (by first | rfl | assumption)).symm) ?_) | (refine wpList_getS (by rfl) _ _ rfl S.out _ rfl 1 _ _ rfl _ (by rfl) Try.underlying24 (by rw [addr_info]; exact congrArg some (addr_cells (by first | rfl | assumption)).symm) ?_) | (refine wpList_getS (by rfl) _ _ rfl S.out _ rfl 2 _ _ rfl _ (by rfl) Try.underlying24 (by rw [addr_info]; exact congrArg some (addr_cells (by first | rfl | assumption)).symm) ?_) | (refine wpList_getS (by rfl) _ _ rfl S.out _ rfl 3 _ _ rfl _ (by rfl) Try.underlying24 (by rw [addr_info]; exact congrArg some (addr_cells (by first | rfl | assumption)).symm) ?_) | (refine wpList_getS (by rfl) _ _ rfl S.out _ rfl 4 _ _ rfl _ (by rfl) Try.underlying24 (by rw [addr_info]; exact congrArg some (addr_cells (by first | rfl | assumption)).symm) ?_) | (refine wpList_getS (by rfl) _ _ rfl S.out _ rfl 5 _ _ rfl _ (by rfl) Try.underlying24 (by rw [addr_info]; exact congrArg some (addr_cells (by first | rfl | assumption)).symm) ?_)) | ((with_reducible show wpList _ _ _ (⟨_, .load _ _, _, _, _, _⟩ :: _) _ _); first | (refine wpList_getC (by rfl) _ _ rfl S.out _ _ rfl 0 _ _ rfl _ (addrC_0 _ _) (by rfl) ?_) | (refine wpList_getC (by rfl) _ _ rfl S.out _ _ rfl 1 _ _ rfl _ (addrC_0 _ _) (by rfl) ?_) | (refine wpList_getC (by rfl) _ _ rfl S.out _ _ rfl 2 _ _ rfl _ (addrC_0 _ _) (by rfl) ?_) | (refine wpList_getC (by rfl) _ _ rfl S.out _ _ rfl 3 _ _ rfl _ (addrC_0 _ _) (by rfl) ?_) | (refine wpList_getC (by rfl) _ _ rfl S.out _ _ rfl 4 _ _ rfl _ (addrC_0 _ _) (by rfl) ?_) | (refine wpList_getC (by rfl) _ _ rfl S.out _ _ rfl 5 _ _ rfl _ (addrC_0 _ _) (by rfl) ?_)) | ((with_reducible show wpList _ _ _ (⟨_, .store _ _ _, _, _, _, _⟩ :: _) _ _); refine wpList_putS (by rfl) _ _ _ rfl rfl S.out _ msg0 rfl rfl 0 _ _ rfl msg_info rfl msg0_one ?_; intro w' hS; simp only [List.set] at hS; replace S := hid hS; clear hS)) | (go_at_call 29; refine (MO.out _).mono ?_; rintro en w'' ⟨rfl, rfl⟩) | (go_at_call 28; first | ((have M3 := M2); refine (OF2.out _).mono ?_; rintro en w' ⟨rfl, hb⟩; replace S := hid (S.out.keep hb); clear hb) | (refine (OF1.out _).mono ?_; have M2 := True.intro; rintro en w' ⟨rfl, hb⟩; replace S := hid (S.out.keep hb); clear hb)))
      refine post_msg Try.results15 rfl _ msg0 _ rfl rfl (S.out.heap 0 rfl) msg_info ?_
      exact PE.out _ 3 e1.out (by decide) S.out.nil
    · have d9 : decide (mv < (l.length : Int)) = false := decide_eq_false h9
      have h6 : l.length ≤ 65535 := by omega
      have he := EW.out (by omega) (by omega)
      have CK2 := hid (fun W v (hv : Rb W v l) => CK.out W v hv h6)
      have GE := hid (fun W k (hk : k + 2 ≤ l.length) (hv : Rb W (.slice ad l.length cd) l) => rget_any _ l k W hv hk)
      obtain ⟨bk, off, rfl, hcell⟩ := hz.resolve_left (by omega)
      have w2 := wordL_bd YB 2
      obtain ⟨x2, hx2⟩ : ∃ x2, wordL l 2 = x2 := ⟨_, rfl⟩
      have G2 := hid (fun W hv => (show Calls Try.prog 38 #[.slice (some ⟨bk, off, none⟩) l.length cd, .int .i64 2] W (fun en w' => en = .returned (.int .i64 x2) ∧ Drw W w') from by rw [← hx2]; exact GE.out W 2 (by omega) hv))
      rw [hx2] at he
      clear E1 E2 HS EW CK hcell hx2 hm w2 hz
      go_enter Try.func15, Try.ntmps15
      go_upto_region 1 with fail
      generalize (((w.alloc (.cells (addrC V bs) 24)).alloc (.cells (addrC V bs2) 24)).alloc (.cells _ 28)) = w' at *
      generalize w.heap.size = b at *
      go_upto_region 8 with (first | go_skip | ((with_reducible show wpList _ _ _ _ _ _); first | ((with_reducible show wpList _ _ _ (⟨_, .load 24 _, _, _, _, _⟩ :: _) _ _); first | (refine wpList_getS (by rfl) _ _ rfl S.out _ rfl 0 _ _ rfl _ (by rfl) Try.underlying24 (by rw [addr_info]; exact congrArg some (addr_cells (by first | rfl | assumption)).symm) ?_) | (refine wpList_getS (by rfl) _ _ rfl S.out _ rfl 1 _ _ rfl _ (by rfl) Try.underlying24 (by rw [addr_info]; exact congrArg some (addr_cells (by first | rfl | assumption)).symm) ?_) | (refine wpList_getS (by rfl) _ _ rfl S.out _ rfl 2 _ _ rfl _ (by rfl) Try.underlying24 (by rw [addr_info]; exact congrArg some (addr_cells (by first | rfl | assumption)).symm) ?_) | (refine wpList_getS (by rfl) _ _ rfl S.out _ rfl 3 _ _ rfl _ (by rfl) Try.underlying24 (by rw [addr_info]; exact congrArg some (addr_cells (by first | rfl | assumption)).symm) ?_) | (refine wpList_getS (by rfl) _ _ rfl S.out _ rfl 4 _ _ rfl _ (by rfl) Try.underlying24 (by rw [addr_info]; exact congrArg some (addr_cells (by first | rfl | assumption)).symm) ?_) | (refine wpList_getS (by rfl) _ _ rfl S.out _ rfl 5 _ _ rfl _ (by rfl) Try.underlying24 (by rw [addr_info]; exact congrArg some (addr_cells (by first | rfl | assumption)).symm) ?_)) | ((with_reducible show wpList _ _ _ (⟨_, .load _ _, _, _, _, _⟩ :: _) _ _); first | (refine wpList_getC (by rfl) _ _ rfl S.out _ _ rfl 0 _ _ rfl _ (addrC_0 _ _) (by rfl) ?_) | (refine wpList_getC (by rfl) _ _ rfl S.out _ _ rfl 1 _ _ rfl _ (addrC_0 _ _) (by rfl) ?_) | (refine wpList_getC (by rfl) _ _ rfl S.out _ _ rfl 2 _ _ rfl _ (addrC_0 _ _) (by rfl) ?_) | (refine wpList_getC (by rfl) _ _ rfl S.out _ _ rfl 3 _ _ rfl _ (addrC_0 _ _) (by rfl) ?_) | (refine wpList_getC (by rfl) _ _ rfl S.out _ _ rfl 4 _ _ rfl _ (addrC_0 _ _) (by rfl) ?_) | (refine wpList_getC (by rfl) _ _ rfl S.out _ _ rfl 5 _ _ rfl _ (addrC_0 _ _) (by rfl) ?_)) | ((with_reducible show wpList _ _ _ (⟨_, .store _ _ _, _, _, _, _⟩ :: _) _ _); refine wpList_putS (by rfl) _ _ _ rfl rfl S.out _ msg0 rfl rfl 0 _ _ rfl msg_info rfl msg0_one ?_; intro w' hS; simp only [List.set] at hS; replace S := hid hS; clear hS)) | (go_at_call 29; refine (MO.out _).mono ?_; rintro en w'' ⟨rfl, rfl⟩) | (go_at_call 28; first | ((have M3 := M2); refine (OF2.out _).mono ?_; rintro en w' ⟨rfl, hb⟩; replace S := hid (S.out.keep hb); clear hb) | (refine (OF1.out _).mono ?_; have M2 := True.intro; rintro en w' ⟨rfl, hb⟩; replace S := hid (S.out.keep hb); clear hb)))
      refine wp_region_canon ((0, false) :: (2, false) :: (3, false) :: (4, false) :: (5, false) :: (1, true) :: (6, true) :: (7, false) :: []) (fun W => Below w'.heap.size w' W) (by kernel_rfl) (by kernel_rfl) (fun c a d v w h => by cases d <;> exact h) ?_ ?_
      · exact (Same.drew _).below _
      simp only [pick, List.getElem?_cons_succ, List.getElem?_cons_zero]
      have B0 := hid ((Same.drew w').below w'.heap.size)
      (first | (refine wpD_weak (by rfl) ?_; apply Exists.intro; refine ⟨fun wS hS => ?_, ?_⟩; (focus (go_simp; (try with_reducible rfl); done)); simp only [Act.put, List.setIfInBounds_toArray, List.set_cons_zero, List.set_cons_succ]) | (refine wpD_pass (by rfl) ?_; simp only [Act.put, List.setIfInBounds_toArray, List.set_cons_zero, List.set_cons_succ]))
      refine wpD_load_addr (by rfl) _ rfl _ _ _ rfl (fun _ hS => (S.out.keep hS).heap 2 rfl) L1 ?_
      refine wpD_load_addr (by rfl) _ rfl _ _ _ rfl (fun _ hS => (S.out.keep hS).heap 1 rfl) L2 ?_
      (try simp only [Act.put, List.setIfInBounds_toArray, List.set_cons_zero, List.set_cons_succ])
      (repeat (first | (refine wpD_weak (by rfl) ?_; apply Exists.intro; refine ⟨fun wS hS => ?_, ?_⟩; (focus (go_simp; (try with_reducible rfl); done)); simp only [Act.put, List.setIfInBounds_toArray, List.set_cons_zero, List.set_cons_succ]) | (refine wpD_pass (by rfl) ?_; simp only [Act.put, List.setIfInBounds_toArray, List.set_cons_zero, List.set_cons_succ])))
      (refine wpD_strong (by rfl) (fun K hK => ?_); go_simp)
      refine (G2.out _ (HB.out.below (S.out.keep B0.out).bel)).mono ?_
      rintro en wk ⟨rfl, hd⟩
      have hb := hd.below wk.heap.size
      replace B0 := hid (B0.out.trans (hd.below _))
      (refine hK _ _ (by exact B0.out) ?_; clear hK K; (try simp only [Act.put, List.setIfInBounds_toArray, List.set_cons_zero, List.set_cons_succ]))
      (refine wpD_strong (by rfl) (fun K hK => ?_); go_simp)
      refine (CK2.out _ _ (HB.out.below (S.out.keep B0.out).bel)).mono ?_
      rintro en wk2 ⟨rfl, hb⟩
      replace B0 := hid (B0.out.trans (hb.mono B0.out.size)); clear hb
      (refine hK _ _ (by exact B0.out) ?_; clear hK K; (try simp only [Act.put, List.setIfInBounds_toArray, List.set_cons_zero, List.set_cons_succ]))
      (repeat (first | (refine wpD_weak (by rfl) ?_; apply Exists.intro; refine ⟨fun wS hS => ?_, ?_⟩; (focus (go_simp; (try with_reducible rfl); done)); simp only [Act.put, List.setIfInBounds_toArray, List.set_cons_zero, List.set_cons_succ]) | (refine wpD_pass (by rfl) ?_; simp only [Act.put, List.setIfInBounds_toArray, List.set_cons_zero, List.set_cons_succ])))
      refine wpD_nil ?_
      replace S := hid (S.out.keep B0.out)
      clear B0 CK2 G2 OF1 OF2 MO
      by_cases hs : x2 = s
      · have hk : (x2 != s) = false := by simp [hs]
        have e1 := hid (show iE V bs bs2 l = 0 from by rw [he, if_pos hs])
        clear he hs
        have hl8 : 8 ≤ l.length := by omega
        have b0 := YB.bd 0
        have b1 := YB.bd 1
        have w4 := wordL_bd YB 4
        have w6 := wordL_bd YB 6
        have q0 : IntKind.i64.wrap (gt l 0) = gt l 0 := IntWalk.i64_in _ (by omega)
        have q1 : IntKind.i64.wrap (gt l 1) = gt l 1 := IntWalk.i64_in _ (by omega)
        have eR : iR l = wordL l 4 * 65536 + wordL l 6 := by
          show ((gt l 4 * 256 + gt l 5) * 256 + gt l 6) * 256 + gt l 7 = (256 * gt l 4 + gt l 5) * 65536 + (256 * gt l 6 + gt l 7)
          omega
        rw [eR] at PG
        have Z := hid (fun W (hW : Sp w W []) => (show W.cell? ⟨bk, off, none⟩ = some (.int .u8 (gt l 0)) ∧ W.cell? ⟨bk, off + 1, none⟩ = some (.int .u8 (gt l 1)) from ⟨by have := (HB.out.below hW.bel).cellAt (j := 0) (by omega); simpa using this, (HB.out.below hW.bel).cellAt (j := 1) (by omega)⟩))
        have G4 := hid (fun W hv => GE.out W 4 (by omega) hv)
        have G6 := hid (fun W hv => GE.out W 6 (by omega) hv)
        have hdl : (l.drop 8).length = l.length - 8 := by simp
        have OW := hid (fun W v (hv : Rb W v (l.drop 8)) => rown_any v (l.drop 8) W hv (by omega))
        rw [hdl] at OW
        have hn0 : 0 < l.length := by omega
        have i8 : (8 : Int) ≤ (l.length : Int) := by omega
        have i0 : (0 : Int) < (l.length : Int) := by omega
        have i1 : (1 : Int) < (l.length : Int) := by omega
        generalize gt l 0 = g0 at *
        generalize gt l 1 = g1 at *
        generalize wordL l 4 = x4 at *
        generalize wordL l 6 = x6 at *
        have v1 : IntKind.u32.wrap x4 = x4 := IntWalk.u32_in _ (by omega)
        have v2 : IntKind.u32.wrap x6 = x6 := IntWalk.u32_in _ (by omega)
        have v3 : IntKind.u32.wrap (x4 * 65536) = x4 * 65536 := IntWalk.u32_in _ (by omega)
        have v4 : IntKind.u32.wrap (x4 * 65536 + x6) = x4 * 65536 + x6 := IntWalk.u32_in _ (by omega)
        clear eR b0 b1 w4 w6 hdl GE
        go_upto_region 10 with fail
        refine wp_region_canon ((0, false) :: (1, false) :: (2, false) :: (3, false) :: (4, false) :: (5, false) :: (6, false) :: (7, false) :: (8, false) :: (9, false) :: (13, false) :: (17, false) :: (18, false) :: (10, true) :: (11, false) :: (12, false) :: (14, true) :: (15, false) :: (16, false) :: (19, true) :: (20, false) :: (21, true) :: (22, false) :: []) (fun W => Sp w W []) (by kernel_rfl) (by kernel_rfl) (fun c a d v w h => by cases d <;> exact h) ?_ ?_
        · exact (S.out.same (Same.drew _)).nil
        simp only [pick, List.getElem?_cons_succ, List.getElem?_cons_zero]
        replace S := hid (S.out.same (Same.drew wk2))
        generalize wk2.drew = w' at *
        (repeat (first | (refine wpD_weak (by rfl) ?_; apply Exists.intro; refine ⟨fun wS hS => ?_, ?_⟩; (focus (have c0 := (Z.out _ hS).1; have c1 := (Z.out _ hS).2; go_simp; (try with_reducible rfl); done)); simp only [Act.put, List.setIfInBounds_toArray, List.set_cons_zero, List.set_cons_succ]) | (refine wpD_pass (by rfl) ?_; simp only [Act.put, List.setIfInBounds_toArray, List.set_cons_zero, List.set_cons_succ])))
        (refine wpD_strong (by rfl) (fun K hK => ?_); go_simp)
        refine (G4.out _ (HB.out.below S.out.bel)).mono ?_
        rintro en w' ⟨rfl, hd⟩
        replace S := hid (S.out.keep (hd.below _))
        clear hd
        (refine hK _ _ (by exact S.out.nil) ?_; clear hK K; (try simp only [Act.put, List.setIfInBounds_toArray, List.set_cons_zero, List.set_cons_succ]))
        (repeat (first | (refine wpD_weak (by rfl) ?_; apply Exists.intro; refine ⟨fun wS hS => ?_, ?_⟩; (focus (go_simp; (try with_reducible rfl); done)); simp only [Act.put, List.setIfInBounds_toArray, List.set_cons_zero, List.set_cons_succ]) | (refine wpD_pass (by rfl) ?_; simp only [Act.put, List.setIfInBounds_toArray, List.set_cons_zero, List.set_cons_succ])))
        (refine wpD_strong (by rfl) (fun K hK => ?_); go_simp)
        refine (G6.out _ (HB.out.below S.out.bel)).mono ?_
        rintro en w' ⟨rfl, hd⟩
        replace S := hid (S.out.keep (hd.below _))
        clear hd
        (refine hK _ _ (by exact S.out.nil) ?_; clear hK K; (try simp only [Act.put, List.setIfInBounds_toArray, List.set_cons_zero, List.set_cons_succ]))
        (repeat (first | (refine wpD_weak (by rfl) ?_; apply Exists.intro; refine ⟨fun wS hS => ?_, ?_⟩; (focus (go_simp; (try with_reducible rfl); done)); simp only [Act.put, List.setIfInBounds_toArray, List.set_cons_zero, List.set_cons_succ]) | (refine wpD_pass (by rfl) ?_; simp only [Act.put, List.setIfInBounds_toArray, List.set_cons_zero, List.set_cons_succ])))
        (refine wpD_strong (by rfl) (fun K hK => ?_); go_simp)
        refine (OW.out _ _ (Rb.back (HB.out.below S.out.bel) 8 hl8)).mono ?_
        rintro en w' ⟨sx, cx, rfl, hS⟩
        replace hS := S.out.call hS; simp only [List.cons_append, List.nil_append] at hS; replace S := hid hS; clear hS
        (refine hK _ _ (by exact S.out.nil) ?_; clear hK K; (try simp only [Act.put, List.setIfInBounds_toArray, List.set_cons_zero, List.set_cons_succ]))
        (repeat (first | (refine wpD_weak (by rfl) ?_; apply Exists.intro; refine ⟨fun wS hS => ?_, ?_⟩; (focus (go_simp; (try with_reducible rfl); done)); simp only [Act.put, List.setIfInBounds_toArray, List.set_cons_zero, List.set_cons_succ]) | (refine wpD_pass (by rfl) ?_; simp only [Act.put, List.setIfInBounds_toArray, List.set_cons_zero, List.set_cons_succ])))
        refine wpD_strongL (by rfl) ?_
        go_wp2_with (first
          | go_skip
          | ((with_reducible show wpList _ _ _ _ _ _); ((with_reducible show wpList _ _ _ (⟨_, .store _ _ _, _, _, _, _⟩ :: _) _ _); refine wpList_putS (by rfl) _ _ _ rfl rfl S.out _ (msgC V g0 g1 (x4 * 65536 + x6) (.slice _ _ _)) rfl rfl 1 _ _ rfl msg_info (by rfl) (msg_one rfl) ?_; intro w' hS; simp only [List.set] at hS; replace S := hid hS; clear hS)))
        all_goals (
        refine qEnd_done S.out.nil ?_
        (try simp only [Act.put, List.setIfInBounds_toArray, List.set_cons_zero, List.set_cons_succ])
        (repeat (first | (refine wpD_weak (by rfl) ?_; apply Exists.intro; refine ⟨fun wS hS => ?_, ?_⟩; (focus (go_simp; (try with_reducible rfl); done)); simp only [Act.put, List.setIfInBounds_toArray, List.set_cons_zero, List.set_cons_succ]) | (refine wpD_pass (by rfl) ?_; simp only [Act.put, List.setIfInBounds_toArray, List.set_cons_zero, List.set_cons_succ])))
        refine wpD_nil ?_
        go_wp2_with fail
        refine post_msg Try.results15 rfl _ (msgC V g0 g1 (x4 * 65536 + x6) (.slice sx (l.length - 8) cx)) _ rfl rfl (S.out.heap 1 rfl) msg_info ?_
        exact PG.out _ sx cx e1.out (S.out.one 0 rfl))
      · have hk : (x2 != s) = true := by simp [hs]
        have e1 := hid (show (52 : Int) = iE V bs bs2 l from by rw [he, if_neg hs])
        clear he hs
        go_wp2_with (first | go_skip | ((with_reducible show wpList _ _ _ _ _ _); first | ((with_reducible show wpList _ _ _ (⟨_, .load 24 _, _, _, _, _⟩ :: _) _ _); first | (refine wpList_getS (by rfl) _ _ rfl S.out _ rfl 0 _ _ rfl _ (by rfl) Try.underlying24 (by rw [addr_info]; exact congrArg some (addr_cells (by first | rfl | assumption)).symm) ?_) | (refine wpList_getS (by rfl) _ _ rfl S.out _ rfl 1 _ _ rfl _ (by rfl) Try.underlying24 (by rw [addr_info]; exact congrArg some (addr_cells (by first | rfl | assumption)).symm) ?_) | (refine wpList_getS (by rfl) _ _ rfl S.out _ rfl 2 _ _ rfl _ (by rfl) Try.underlying24 (by rw [addr_info]; exact congrArg some (addr_cells (by first | rfl | assumption)).symm) ?_) | (refine wpList_getS (by rfl) _ _ rfl S.out _ rfl 3 _ _ rfl _ (by rfl) Try.underlying24 (by rw [addr_info]; exact congrArg some (addr_cells (by first | rfl | assumption)).symm) ?_) | (refine wpList_getS (by rfl) _ _ rfl S.out _ rfl 4 _ _ rfl _ (by rfl) Try.underlying24 (by rw [addr_info]; exact congrArg some (addr_cells (by first | rfl | assumption)).symm) ?_) | (refine wpList_getS (by rfl) _ _ rfl S.out _ rfl 5 _ _ rfl _ (by rfl) Try.underlying24 (by rw [addr_info]; exact congrArg some (addr_cells (by first | rfl | assumption)).symm) ?_)) | ((with_reducible show wpList _ _ _ (⟨_, .load _ _, _, _, _, _⟩ :: _) _ _); first | (refine wpList_getC (by rfl) _ _ rfl S.out _ _ rfl 0 _ _ rfl _ (addrC_0 _ _) (by rfl) ?_) | (refine wpList_getC (by rfl) _ _ rfl S.out _ _ rfl 1 _ _ rfl _ (addrC_0 _ _) (by rfl) ?_) | (refine wpList_getC (by rfl) _ _ rfl S.out _ _ rfl 2 _ _ rfl _ (addrC_0 _ _) (by rfl) ?_) | (refine wpList_getC (by rfl) _ _ rfl S.out _ _ rfl 3 _ _ rfl _ (addrC_0 _ _) (by rfl) ?_) | (refine wpList_getC (by rfl) _ _ rfl S.out _ _ rfl 4 _ _ rfl _ (addrC_0 _ _) (by rfl) ?_) | (refine wpList_getC (by rfl) _ _ rfl S.out _ _ rfl 5 _ _ rfl _ (addrC_0 _ _) (by rfl) ?_)) | ((with_reducible show wpList _ _ _ (⟨_, .store _ _ _, _, _, _, _⟩ :: _) _ _); refine wpList_putS (by rfl) _ _ _ rfl rfl S.out _ msg0 rfl rfl 0 _ _ rfl msg_info rfl msg0_one ?_; intro w' hS; simp only [List.set] at hS; replace S := hid hS; clear hS)) | (go_at_call 29; refine (MO.out _).mono ?_; rintro en w'' ⟨rfl, rfl⟩) | (go_at_call 28; first | ((have M3 := M2); refine (OF2.out _).mono ?_; rintro en w' ⟨rfl, hb⟩; replace S := hid (S.out.keep hb); clear hb) | (refine (OF1.out _).mono ?_; have M2 := True.intro; rintro en w' ⟨rfl, hb⟩; replace S := hid (S.out.keep hb); clear hb)))
        refine post_msg Try.results15 rfl _ msg0 _ rfl rfl (S.out.heap 0 rfl) msg_info ?_
        exact PE.out _ 52 e1.out (by decide) S.out.nil
end Go.Proofs.Ytpggbbjhbklamaa
