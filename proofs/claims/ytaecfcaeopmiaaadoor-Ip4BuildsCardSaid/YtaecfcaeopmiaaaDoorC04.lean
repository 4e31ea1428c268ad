/-
  slices.Clone, the helpers of the statements and of the document: same, first, rest.
-/
import Derived.Test.YtaecfcaeopmiaaaDoorO04
import Derived.Lib.SliceRun
import Derived.Test.YtaecfcaeopmiaaaDoorDrw
namespace Go.Proofs.YtaecfcaeopmiaaaDoor
open Go.RowKit

/-- a copy of its own is told; nothing old has turned -/
def OwnPost (l : List Int) (w : World) (en : Ending) (w' : World) : Prop :=
  ∃ v, en = .returned v ∧ w'.ownsRow w.heap.size 5 1 v l.length (bts l) ∧ Below w.heap.size w w'
set_option maxHeartbeats 800000 in
theorem cloneO_any (v : Value) (l : List Int) (w : World) (h : Rb w v l) (hl : l.length ≤ 1073741824) : Calls Tryd.prog 53 #[v] w (OwnPost l w) := by
  obtain ⟨i0, hi, hz0, hz1, hz2⟩ := info_parts Tryd.info5
  have HB := hid h
  obtain ⟨a, cap, rfl, hc, hm, hz⟩ := h.open
  have q22 : ∀ (w : World) (a : Option Addr) (n c n' c' : Nat), (binOp .eql 22 (.slice a n c) (.slice none n' c')).run Tryd.prog w = .ok (.bool a.isNone) w := fun w a n c n' c' => Lib.run_eql_slice_nil w _ _ a n c n' c' Tryd.underlying22
  clear h hz
  cases a with
  | none =>
    have hn : l = [] := by
      obtain ⟨_, a', cap', e, _, _, h3, h4⟩ := HB.out
      simp only [Value.slice.injEq] at e
      obtain ⟨rfl, _, rfl⟩ := e
      cases l with
      | nil => rfl
      | cons x l => obtain ⟨b, off, e, _⟩ := h4 0 (by simp); cases e
    subst hn
    go_enter Tryd.func53, Tryd.ntmps53
    go_wp2
    go_ret
    exact ⟨_, rfl, World.ownsRow_nil _ _ _ _, Below.refl _ _⟩
  | some ad =>
    go_enter Tryd.func53, Tryd.ntmps53
    go_wp2_with (at_builtin; refine wpList_append_bytes rfl _ _ 22 rfl w.heap.size 5 i0 _ Tryd.underlying22 hi hz0 hz1 hz2 rfl _ _ _ rfl (World.ownsRow_made w #[] 0 (Nat.le_refl _) (Nat.zero_le _) rfl) _ l rfl (HB.out.below (bel_alloc w _)) (by simp; omega) (by simp) ?_; intro a2 c2 w2 ho hg hat)
    go_ret
    refine ⟨_, rfl, ?_, ((Below.refl _ w).alloc (Nat.le_refl _) _).grown hg (by simp) (fun k hk => by obtain rfl := Option.some.inj hk; exact Nat.le_refl _)⟩
    simpa using ho

/-! ### same -/
end Go.Proofs.YtaecfcaeopmiaaaDoor
