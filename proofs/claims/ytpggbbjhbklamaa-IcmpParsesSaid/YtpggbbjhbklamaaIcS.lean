/-
  Build, the program's and the document's, whatever comes in; IsError.
-/
import Derived.Test.YtpggbbjhbklamaaIcR
import Derived.Test.YtpggbbjhbklamaaIcP
namespace Go.Proofs.Ytpggbbjhbklamaa
open Go.RowKit

/-- what both ask of a message's head -/
def IRight (V Va : Int) (bs : List Int) (Vb : Int) (bs2 : List Int) (T C : Int) : Prop := (V = 4 ∨ V = 6) ∧ ((Va == V) && validA Va bs) = true ∧ ((Vb == V) && validA Vb bs2) = true ∧ (0 ≤ T ∧ T ≤ 255) ∧ (0 ≤ C ∧ C ≤ 255)
set_option maxHeartbeats 1000000 in
set_option maxRecDepth 20000 in
theorem ibuild_bad (V Va : Int) (bs : List Int) (Vb : Int) (bs2 : List Int) (T C R : Int) (dv : Value) (d : List Int) (w : World) (h : IsA Va bs) (h2 : IsA Vb bs2) (hd : Rb w dv d) (hn : ¬ IRight V Va bs Vb bs2 T C) :
    Calls Try.prog 9 #[.agg (addrC Va bs), .agg (addrC Vb bs2), .agg (msgC V T C R dv)] w (APost w (.tuple #[.slice none 0 0, .int .i64 1])) := by
  have L1 := h.len
  have L2 := h2.len
  have OF1 := hid (fun W => of_any Va bs V W h)
  have OF2 := hid (fun W => of_any Vb bs2 V W h2)
  unfold IRight at hn
  generalize ((Va == V) && validA Va bs) = o1 at *
  generalize ((Vb == V) && validA Vb bs2) = o2 at *
  have HN := hid hn
  obtain ⟨ad, cd, rfl, _, hmd, _⟩ := hd.open
  have P := hid (fun en w' (h1 : en = .returned (.tuple #[.slice none 0 0, .int .i64 1])) (h2 : Sp w w' []) => show APost w (.tuple #[.slice none 0 0, .int .i64 1]) en w' from ⟨h1, h2.bel⟩)
  have S : Hid (Sp w (((w.alloc (.cells (addrC Va bs) 24)).alloc (.cells (addrC Vb bs2) 24)).alloc (.cells (msgC V T C R (.slice ad d.length cd)) 28)) [.blk (w.heap.size + 2) (msgC V T C R (.slice ad d.length cd)) 28, .blk (w.heap.size + 1) (addrC Vb bs2) 24, .blk w.heap.size (addrC Va bs) 24]) := hid (Sp.in3 ..)
  clear h h2 hd hn hmd
  unfold msgC at *
  go_enter Try.func9, Try.ntmps9
  go_upto_region 1 with fail
  generalize (((w.alloc (.cells (addrC Va bs) 24)).alloc (.cells (addrC Vb bs2) 24)).alloc (.cells _ 28)) = w' at *
  generalize w.heap.size = b at *
  go_wp2_with (first | go_skip | ((with_reducible show wpList _ _ _ _ _ _); first | ((with_reducible show wpList _ _ _ (⟨_, .binOp _ _ _ _ _, _, _, _, _⟩ :: _) _ _); refine wpList_cmp (by rfl) _ (by rfl) _ _ _ _ rfl _ (by go_simp; exact rfl) ?_ ?_ <;> (intro hc; (try simp only [decide_eq_true_eq, decide_eq_false_iff_not, Int.not_lt] at hc))) | ((with_reducible show wpList _ _ _ (⟨_, .load 24 _, _, _, _, _⟩ :: _) _ _); first | (refine wpList_getS (by rfl) _ _ rfl S.out _ rfl 0 _ _ rfl _ (by rfl) Try.underlying24 (by rw [addr_info]; exact congrArg some (addr_cells (by first | rfl | assumption)).symm) ?_) | (refine wpList_getS (by rfl) _ _ rfl S.out _ rfl 1 _ _ rfl _ (by rfl) Try.underlying24 (by rw [addr_info]; exact congrArg some (addr_cells (by first | rfl | assumption)).symm) ?_) | (refine wpList_getS (by rfl) _ _ rfl S.out _ rfl 2 _ _ rfl _ (by rfl) Try.underlying24 (by rw [addr_info]; exact congrArg some (addr_cells (by first | rfl | assumption)).symm) ?_) | (refine wpList_getS (by rfl) _ _ rfl S.out _ rfl 3 _ _ rfl _ (by rfl) Try.underlying24 (by rw [addr_info]; exact congrArg some (addr_cells (by first | rfl | assumption)).symm) ?_) | (refine wpList_getS (by rfl) _ _ rfl S.out _ rfl 4 _ _ rfl _ (by rfl) Try.underlying24 (by rw [addr_info]; exact congrArg some (addr_cells (by first | rfl | assumption)).symm) ?_) | (refine wpList_getS (by rfl) _ _ rfl S.out _ rfl 5 _ _ rfl _ (by rfl) Try.underlying24 (by rw [addr_info]; exact congrArg some (addr_cells (by first | rfl | assumption)).symm) ?_)) | ((with_reducible show wpList _ _ _ (⟨_, .load _ _, _, _, _, _⟩ :: _) _ _); first | (refine wpList_getC (by rfl) _ _ rfl S.out _ _ rfl 0 _ _ rfl _ (by first | exact msg_0 .. | exact msg_1 .. | exact msg_2 .. | exact msg_3 .. | exact msg_4 ..) (by rfl) ?_) | (refine wpList_getC (by rfl) _ _ rfl S.out _ _ rfl 1 _ _ rfl _ (by first | exact msg_0 .. | exact msg_1 .. | exact msg_2 .. | exact msg_3 .. | exact msg_4 ..) (by rfl) ?_))) | (go_at_call 19; first | ((have M3 := M2); refine (OF2.out _).mono ?_; rintro en w' ⟨rfl, hb⟩; replace S := hid (S.out.keep hb); clear hb; cases o2) | (refine (OF1.out _).mono ?_; have M2 := True.intro; rintro en w' ⟨rfl, hb⟩; replace S := hid (S.out.keep hb); clear hb; cases o1)))
  all_goals first
    | (go_ret2; exact P.out _ _ rfl S.out.nil)
    | (exfalso; refine HN.out ⟨?_, ?_, ?_, ?_, ?_⟩ <;> first | trivial | (simp only [bne_iff_ne, ne_eq, bne_eq_false_iff_eq] at *; omega))
set_option maxHeartbeats 1000000 in
set_option maxRecDepth 20000 in
theorem rbuild_bad (V Va : Int) (bs : List Int) (Vb : Int) (bs2 : List Int) (T C R : Int) (dv : Value) (d : List Int) (w : World) (h : IsA Va bs) (h2 : IsA Vb bs2) (hd : Rb w dv d) (hn : ¬ IRight V Va bs Vb bs2 T C) :
    Calls Try.prog 10 #[.agg (addrC Va bs), .agg (addrC Vb bs2), .agg (msgC V T C R dv)] w (APost w (.tuple #[.slice none 0 0, .int .i64 1])) := by
  have L1 := h.len
  have L2 := h2.len
  have OF1 := hid (fun W => raddr_any Va bs V W h)
  have OF2 := hid (fun W => raddr_any Vb bs2 V W h2)
  unfold IRight at hn
  generalize ((Va == V) && validA Va bs) = o1 at *
  generalize ((Vb == V) && validA Vb bs2) = o2 at *
  have HN := hid hn
  obtain ⟨ad, cd, rfl, _, hmd, _⟩ := hd.open
  have P := hid (fun en w' (h1 : en = .returned (.tuple #[.slice none 0 0, .int .i64 1])) (h2 : Sp w w' []) => show APost w (.tuple #[.slice none 0 0, .int .i64 1]) en w' from ⟨h1, h2.bel⟩)
  have S : Hid (Sp w (((w.alloc (.cells (addrC Va bs) 24)).alloc (.cells (addrC Vb bs2) 24)).alloc (.cells (msgC V T C R (.slice ad d.length cd)) 28)) [.blk (w.heap.size + 2) (msgC V T C R (.slice ad d.length cd)) 28, .blk (w.heap.size + 1) (addrC Vb bs2) 24, .blk w.heap.size (addrC Va bs) 24]) := hid (Sp.in3 ..)
  clear h h2 hd hn hmd
  unfold msgC at *
  go_enter Try.func10, Try.ntmps10
  go_upto_region 1 with fail
  generalize (((w.alloc (.cells (addrC Va bs) 24)).alloc (.cells (addrC Vb bs2) 24)).alloc (.cells _ 28)) = w' at *
  generalize w.heap.size = b at *
  go_wp2_with (first | go_skip | ((with_reducible show wpList _ _ _ _ _ _); first | ((with_reducible show wpList _ _ _ (⟨_, .binOp _ _ _ _ _, _, _, _, _⟩ :: _) _ _); refine wpList_cmp (by rfl) _ (by rfl) _ _ _ _ rfl _ (by go_simp; exact rfl) ?_ ?_ <;> (intro hc; (try simp only [decide_eq_true_eq, decide_eq_false_iff_not, Int.not_lt] at hc))) | ((with_reducible show wpList _ _ _ (⟨_, .load 24 _, _, _, _, _⟩ :: _) _ _); first | (refine wpList_getS (by rfl) _ _ rfl S.out _ rfl 0 _ _ rfl _ (by rfl) Try.underlying24 (by rw [addr_info]; exact congrArg some (addr_cells (by first | rfl | assumption)).symm) ?_) | (refine wpList_getS (by rfl) _ _ rfl S.out _ rfl 1 _ _ rfl _ (by rfl) Try.underlying24 (by rw [addr_info]; exact congrArg some (addr_cells (by first | rfl | assumption)).symm) ?_) | (refine wpList_getS (by rfl) _ _ rfl S.out _ rfl 2 _ _ rfl _ (by rfl) Try.underlying24 (by rw [addr_info]; exact congrArg some (addr_cells (by first | rfl | assumption)).symm) ?_) | (refine wpList_getS (by rfl) _ _ rfl S.out _ rfl 3 _ _ rfl _ (by rfl) Try.underlying24 (by rw [addr_info]; exact congrArg some (addr_cells (by first | rfl | assumption)).symm) ?_) | (refine wpList_getS (by rfl) _ _ rfl S.out _ rfl 4 _ _ rfl _ (by rfl) Try.underlying24 (by rw [addr_info]; exact congrArg some (addr_cells (by first | rfl | assumption)).symm) ?_) | (refine wpList_getS (by rfl) _ _ rfl S.out _ rfl 5 _ _ rfl _ (by rfl) Try.underlying24 (by rw [addr_info]; exact congrArg some (addr_cells (by first | rfl | assumption)).symm) ?_)) | ((with_reducible show wpList _ _ _ (⟨_, .load _ _, _, _, _, _⟩ :: _) _ _); first | (refine wpList_getC (by rfl) _ _ rfl S.out _ _ rfl 0 _ _ rfl _ (by first | exact msg_0 .. | exact msg_1 .. | exact msg_2 .. | exact msg_3 .. | exact msg_4 ..) (by rfl) ?_) | (refine wpList_getC (by rfl) _ _ rfl S.out _ _ rfl 1 _ _ rfl _ (by first | exact msg_0 .. | exact msg_1 .. | exact msg_2 .. | exact msg_3 .. | exact msg_4 ..) (by rfl) ?_))) | (go_at_call 28; first | ((have M3 := M2); refine (OF2.out _).mono ?_; rintro en w' ⟨rfl, hb⟩; replace S := hid (S.out.keep hb); clear hb; cases o2) | (refine (OF1.out _).mono ?_; have M2 := True.intro; rintro en w' ⟨rfl, hb⟩; replace S := hid (S.out.keep hb); clear hb; cases o1)))
  all_goals first
    | (go_ret2; exact P.out _ _ rfl S.out.nil)
    | (exfalso; refine HN.out ⟨?_, ?_, ?_, ?_, ?_⟩ <;> first | trivial | (simp only [bne_iff_ne, ne_eq, bne_eq_false_iff_eq] at *; omega))
/-- is it an error? -/
def isErrB (V T : Int) : Bool := decide ((V = 6 ∧ 0 ≤ T ∧ T < 128) ∨ (V = 4 ∧ (T = 3 ∨ T = 4 ∨ T = 5 ∨ T = 11 ∨ T = 12)))
set_option maxHeartbeats 400000 in
theorem isErr_any (V T C R : Int) (v : Value) (w : World) : Calls Try.prog 12 #[.agg (msgC V T C R v)] w (APost w (.bool (isErrB V T))) := by
  have S : Hid (Sp w (w.alloc (.cells (msgC V T C R v) 28)) [.blk w.heap.size (msgC V T C R v) 28]) := hid (Sp.in1 ..)
  have P := hid (fun en w' c (h1 : en = .returned (.bool c)) (hc : c = isErrB V T) (h2 : Sp w w' []) => show APost w (.bool (isErrB V T)) en w' from ⟨by rw [h1, hc], h2.bel⟩)
  unfold msgC at *
  go_enter Try.func12, Try.ntmps12
  go_upto_region 1 with fail
  generalize w.alloc _ = w' at *
  generalize w.heap.size = b at *
  go_wp2_with (first
    | go_skip
    | ((with_reducible show wpList _ _ _ _ _ _); first | ((with_reducible show wpList _ _ _ (⟨_, .binOp _ _ _ _ _, _, _, _, _⟩ :: _) _ _); refine wpList_cmp (by rfl) _ (by rfl) _ _ _ _ rfl _ (by go_simp; exact rfl) ?_ ?_ <;> (intro hc; (try simp only [decide_eq_true_eq, decide_eq_false_iff_not, Int.not_lt] at hc))) | ((with_reducible show wpList _ _ _ (⟨_, .load _ _, _, _, _, _⟩ :: _) _ _); first | (refine wpList_getC (by rfl) _ _ rfl S.out _ _ rfl 0 _ _ rfl _ (by first | exact msg_0 .. | exact msg_1 .. | exact msg_2 .. | exact msg_3 .. | exact msg_4 ..) (by rfl) ?_) | (refine wpList_getC (by rfl) _ _ rfl S.out _ _ rfl 1 _ _ rfl _ (by first | exact msg_0 .. | exact msg_1 .. | exact msg_2 .. | exact msg_3 .. | exact msg_4 ..) (by rfl) ?_))))
  all_goals
    go_ret
    refine P.out _ _ _ rfl ?_ S.out.nil
    unfold isErrB
    simp only [bne_iff_ne, ne_eq, bne_eq_false_iff_eq, beq_iff_eq, beq_eq_false_iff_ne] at *
    first
      | (refine (decide_eq_true ?_).symm; omega)
      | (refine (decide_eq_false ?_).symm; omega)
set_option maxHeartbeats 400000 in
theorem risErr_any (V T C R : Int) (v : Value) (w : World) : Calls Try.prog 13 #[.agg (msgC V T C R v)] w (APost w (.bool (isErrB V T))) := by
  have S : Hid (Sp w (w.alloc (.cells (msgC V T C R v) 28)) [.blk w.heap.size (msgC V T C R v) 28]) := hid (Sp.in1 ..)
  have P := hid (fun en w' c (h1 : en = .returned (.bool c)) (hc : c = isErrB V T) (h2 : Sp w w' []) => show APost w (.bool (isErrB V T)) en w' from ⟨by rw [h1, hc], h2.bel⟩)
  unfold msgC at *
  go_enter Try.func13, Try.ntmps13
  go_upto_region 1 with fail
  generalize w.alloc _ = w' at *
  generalize w.heap.size = b at *
  go_wp2_with (first
    | go_skip
    | ((with_reducible show wpList _ _ _ _ _ _); first | ((with_reducible show wpList _ _ _ (⟨_, .binOp _ _ _ _ _, _, _, _, _⟩ :: _) _ _); refine wpList_cmp (by rfl) _ (by rfl) _ _ _ _ rfl _ (by go_simp; exact rfl) ?_ ?_ <;> (intro hc; (try simp only [decide_eq_true_eq, decide_eq_false_iff_not, Int.not_lt] at hc))) | ((with_reducible show wpList _ _ _ (⟨_, .load _ _, _, _, _, _⟩ :: _) _ _); first | (refine wpList_getC (by rfl) _ _ rfl S.out _ _ rfl 0 _ _ rfl _ (by first | exact msg_0 .. | exact msg_1 .. | exact msg_2 .. | exact msg_3 .. | exact msg_4 ..) (by rfl) ?_) | (refine wpList_getC (by rfl) _ _ rfl S.out _ _ rfl 1 _ _ rfl _ (by first | exact msg_0 .. | exact msg_1 .. | exact msg_2 .. | exact msg_3 .. | exact msg_4 ..) (by rfl) ?_))))
  all_goals
    go_ret
    refine P.out _ _ _ rfl ?_ S.out.nil
    unfold isErrB
    simp only [bne_iff_ne, ne_eq, bne_eq_false_iff_eq, beq_iff_eq, beq_eq_false_iff_ne] at *
    first
      | (refine (decide_eq_true ?_).symm; omega)
      | (refine (decide_eq_false ?_).symm; omega)
end Go.Proofs.Ytpggbbjhbklamaa
