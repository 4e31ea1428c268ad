/-
  The statements' own helpers: sameM; and IsError of the two examples.
-/
import Derived.Test.YtpggbbjhbklamaaIcP
namespace Go.Proofs.Ytpggbbjhbklamaa
open Go.RowKit

set_option maxHeartbeats 400000 in
theorem sameM_true (V T C R : Int) (v u : Value) (l : List Int) (w : World) (hv : Rb w v l) (hu : Rb w u l) : Calls Try.prog 16 #[.agg (msgC V T C R v), .agg (msgC V T C R u)] w (APost w (.bool true)) := by
  have SA := hid (fun W (hW : Below w.heap.size w W) => (show Calls Try.prog 11 #[v, u] W (SameP W true) from by have := sameB_any v u _ _ W (hv.below hW) (hu.below hW); rwa [decide_eq_true rfl] at this))
  have P := hid (fun en w' (h1 : en = .returned (.bool true)) (h2 : Sp w w' []) => show APost w (.bool true) en w' from ⟨h1, h2.bel⟩)
  have S : Hid (Sp w ((w.alloc (.cells (msgC V T C R v) 28)).alloc (.cells (msgC V T C R u) 28)) [.blk (w.heap.size + 1) (msgC V T C R u) 28, .blk w.heap.size (msgC V T C R v) 28]) := hid (Sp.in2 ..)
  obtain ⟨va, vn, vc, rfl, _⟩ : ∃ a n c, v = .slice a n c ∧ True := by obtain ⟨a, c, e, _⟩ := hv.open; exact ⟨_, _, _, e, trivial⟩
  obtain ⟨ua, un, uc, rfl, _⟩ : ∃ a n c, u = .slice a n c ∧ True := by obtain ⟨a, c, e, _⟩ := hu.open; exact ⟨_, _, _, e, trivial⟩
  clear hv hu
  unfold msgC at *
  go_enter Try.func16, Try.ntmps16
  go_upto_region 1 with fail
  generalize (w.alloc _).alloc _ = w' at *
  generalize hb0 : w.heap.size = b at *
  go_wp2_with (first
    | go_skip
    | ((with_reducible show wpList _ _ _ _ _ _); ((with_reducible show wpList _ _ _ (⟨_, .load _ _, _, _, _, _⟩ :: _) _ _); first | (refine wpList_getC (by rfl) _ _ rfl S.out _ _ rfl 0 _ _ rfl _ (by first | exact msg_0 .. | exact msg_1 .. | exact msg_2 .. | exact msg_3 .. | exact msg_4 ..) (by rfl) ?_) | (refine wpList_getC (by rfl) _ _ rfl S.out _ _ rfl 1 _ _ rfl _ (by first | exact msg_0 .. | exact msg_1 .. | exact msg_2 .. | exact msg_3 .. | exact msg_4 ..) (by rfl) ?_)))
    | (go_at_call 11; refine (SA.out _ (by have := S.out.bel; rwa [hb0] at this)).mono ?_; rintro en w'' ⟨rfl, rfl⟩))
  go_ret
  exact P.out _ _ rfl S.out.nil
theorem isErr_8 (v : Value) (R : Int) (w : World) : Calls Try.prog 12 #[.agg (msgC 4 8 0 R v)] w (APost w (.bool false)) := by
  have S : Hid (Sp w (w.alloc (.cells (msgC 4 8 0 R v) 28)) [.blk w.heap.size (msgC 4 8 0 R v) 28]) := hid (Sp.in1 ..)
  have P := hid (fun en w' (h1 : en = .returned (.bool false)) (h2 : Sp w w' []) => show APost w (.bool false) en w' from ⟨h1, h2.bel⟩)
  unfold msgC at *
  go_enter Try.func12, Try.ntmps12
  go_upto_region 1 with fail
  generalize w.alloc _ = w' at *
  generalize w.heap.size = b at *
  go_wp2_with (first
    | go_skip
    | ((with_reducible show wpList _ _ _ _ _ _); ((with_reducible show wpList _ _ _ (⟨_, .load _ _, _, _, _, _⟩ :: _) _ _); first | (refine wpList_getC (by rfl) _ _ rfl S.out _ _ rfl 0 _ _ rfl _ (by first | exact msg_0 .. | exact msg_1 .. | exact msg_2 .. | exact msg_3 .. | exact msg_4 ..) (by rfl) ?_) | (refine wpList_getC (by rfl) _ _ rfl S.out _ _ rfl 1 _ _ rfl _ (by first | exact msg_0 .. | exact msg_1 .. | exact msg_2 .. | exact msg_3 .. | exact msg_4 ..) (by rfl) ?_))))
  go_ret
  exact P.out _ _ rfl S.out.nil
theorem isErr_6 (v : Value) (R : Int) (w : World) : Calls Try.prog 12 #[.agg (msgC 6 2 0 R v)] w (APost w (.bool true)) := by
  have S : Hid (Sp w (w.alloc (.cells (msgC 6 2 0 R v) 28)) [.blk w.heap.size (msgC 6 2 0 R v) 28]) := hid (Sp.in1 ..)
  have P := hid (fun en w' (h1 : en = .returned (.bool true)) (h2 : Sp w w' []) => show APost w (.bool true) en w' from ⟨h1, h2.bel⟩)
  unfold msgC at *
  go_enter Try.func12, Try.ntmps12
  go_upto_region 1 with fail
  generalize w.alloc _ = w' at *
  generalize w.heap.size = b at *
  go_wp2_with (first
    | go_skip
    | ((with_reducible show wpList _ _ _ _ _ _); ((with_reducible show wpList _ _ _ (⟨_, .load _ _, _, _, _, _⟩ :: _) _ _); first | (refine wpList_getC (by rfl) _ _ rfl S.out _ _ rfl 0 _ _ rfl _ (by first | exact msg_0 .. | exact msg_1 .. | exact msg_2 .. | exact msg_3 .. | exact msg_4 ..) (by rfl) ?_) | (refine wpList_getC (by rfl) _ _ rfl S.out _ _ rfl 1 _ _ rfl _ (by first | exact msg_0 .. | exact msg_1 .. | exact msg_2 .. | exact msg_3 .. | exact msg_4 ..) (by rfl) ?_))))
  go_ret
  exact P.out _ _ rfl S.out.nil
end Go.Proofs.Ytpggbbjhbklamaa
