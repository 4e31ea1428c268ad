/-
  The writer of package wire: what its block holds, and what each of its methods does to it.
-/
import Derived.Test.YtaecfcaeopmiaaaDoorGen
import Derived.Deep.QuietTactic
import Derived.BigQuiet
import Derived.Deep.RegionHeld3
import Derived.Deep.RegionLaw
import Derived.Deep.LoopGhost
namespace Go.Proofs.YtaecfcaeopmiaaaDoor
open Go.RowKit

/-- block wb is a writer that wrote l, may write lim bytes, and has the error e; its blocks have the label i -/
def IsW (ρ : Nat → Nat) (i : Nat) (w : World) (wb : Nat) (l : List Int) (lim e : Int) : Prop :=
  ρ wb = i ∧ Byt l ∧ 0 ≤ lim ∧ lim ≤ 65575 ∧ (l.length : Int) ≤ lim ∧
    ∃ ov, w.heap[wb]? = some (.cells #[ov, .int .i64 lim, .int .i64 e] 91 (0, 0)) ∧ w.ownsRow 0 5 1 ov l.length (bts l) ∧ Lab ρ i ov

theorem IsW.same {ρ : Nat → Nat} {i : Nat} {w w' : World} {wb : Nat} {l : List Int} {lim e : Int} (h : IsW ρ i w wb l lim e) (hs : Same w w') : IsW ρ i w' wb l lim e := by
  obtain ⟨h1, h2, h3, h4, h5, ov, h6, h7, h8⟩ := h
  exact ⟨h1, h2, h3, h4, h5, ov, by rw [hs.heap]; exact h6, own_same h7 hs, h8⟩
/-- another's steps leave a writer as it is -/
theorem IsW.other {ρ : Nat → Nat} {i j j' : Nat} {w w' : World} {wb : Nat} {l : List Int} {lim e : Int} (h : IsW ρ i w wb l lim e) (hf : FrO ρ j w w') (hij : i ≠ j) : IsW (ext ρ w.heap.size j') i w' wb l lim e := by
  obtain ⟨h1, h2, h3, h4, h5, ov, h6, h7, h8⟩ := h
  have hw := lt_of_block h6
  refine ⟨by rw [ext_old hw]; exact h1, h2, h3, h4, h5, ov, ?_, own_move h7 fun b hb hlt => hf.block b hlt (by rw [h8 b hb]; exact hij), fun b hb => ?_⟩
  · rw [hf.block wb hw (by rw [h1]; exact hij)]; exact h6
  · rw [ext_old (own_lt h7 hb)]; exact h8 b hb

/-- the error behind asking for room for n bytes -/
def roomE (len lim e n : Int) : Int := if e = 0 ∧ lim - len < n then 3 else e

/-- what asking for room leaves -/
def RoomPost (ρ : Nat → Nat) (i wb : Nat) (l : List Int) (lim e n : Int) (w : World) (en : Ending) (w' : World) : Prop :=
  en = .returned (.bool (decide (roomE l.length lim e n = 0))) ∧ IsW ρ i w' wb l lim (roomE l.length lim e n) ∧ FrO ρ i w w' ∧ w'.heap.size = w.heap.size

set_option maxHeartbeats 800000 in
theorem room_any (ρ : Nat → Nat) (i wb : Nat) (l : List Int) (lim e n : Int) (w : World) (h : IsW ρ i w wb l lim e) (hn0 : 0 ≤ n) (hn1 : n ≤ 281474976710656) :
    Calls Tryd.prog 65 #[.pointer (some ⟨wb, 0, none⟩), .int .i64 n] w (RoomPost ρ i wb l lim e n w) := by
  obtain ⟨h1, h2, h3, h4, h5, ov, h6, h7, h8⟩ := h
  obtain ⟨a, cap, rfl, hc, hm, _⟩ := own_shape h7
  obtain ⟨c0, c1, c2, f0, f1, f2⟩ := cells3 h6
  have hback : ∀ n', IsW ρ i (w.drewN n') wb l lim e := fun n' => ⟨h1, h2, h3, h4, h5, _, h6, h7, h8⟩
  have hlen : (0 : Int) ≤ l.length := Int.natCast_nonneg _
  have HB := hid hback
  have H6 := hid h6
  have H7 := hid h7
  have H8 := hid h8
  have H1 := hid h1
  clear hback h6 h7 h8 h1
  unfold maxLen at hm
  by_cases he : e = 0
  · subst he
    by_cases hr : lim - l.length < n
    · go_enter Tryd.func65, Tryd.ntmps65
      go_wp2_with fail
      go_quiet (fail)
      go_wp2
      go_ret
      have hE : roomE l.length lim 0 n = 3 := by simp [roomE, hr]
      refine ⟨by rw [hE]; rfl, ?_, ?_, by simp [World.setCell]⟩
      · rw [hE]
        refine ⟨H1.out, h2, h3, h4, h5, _, heap_store (w := w.drewN nq) H6.out _, own_move (w := w.drewN nq) H7.out fun b hb _ => Below.heap_setCell _ _ _ _ (fun e => ?_), H8.out⟩
        subst e
        rcases H7.out.2 with ⟨hv, _⟩ | ⟨g, cap', cur, hv, _, hg, _⟩
        · rw [hv] at hb; simp [Value.ownBlock] at hb
        · rw [hv] at hb
          simp only [Value.ownBlock, Option.some.injEq] at hb
          subst hb
          have := hg.symm.trans H6.out
          simp at this
      · exact ((Same.drewN w nq).fr ρ i).trans' (FrO.setCell H1.out _)
    · have hd : decide (lim - (l.length : Int) < n) = false := by simpa using hr
      go_enter Tryd.func65, Tryd.ntmps65
      go_wp2_with fail
      go_quiet (fail)
      go_wp2
      go_ret
      have hE : roomE l.length lim 0 n = 0 := by simp [roomE, hr]
      refine ⟨by rw [hE]; rfl, ?_, (Same.drewN w nq).fr ρ i, rfl⟩
      rw [hE]
      exact HB.out nq
  · have he' : (e == 0) = false := by simpa using he
    go_enter Tryd.func65, Tryd.ntmps65
    go_wp2_with fail
    go_quiet (fail)
    go_wp2
    go_ret
    have hE : roomE l.length lim e n = e := by simp [roomE, he]
    refine ⟨by rw [hE]; simp [he], ?_, (Same.drewN w nq).fr ρ i, rfl⟩
    rw [hE]
    exact HB.out nq
end Go.Proofs.YtaecfcaeopmiaaaDoor
