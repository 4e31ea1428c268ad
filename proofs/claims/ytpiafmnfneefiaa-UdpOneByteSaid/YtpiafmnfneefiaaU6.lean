/-
  package wire's reader: the numbers of 1, 2, 4 bytes, Bytes, Left, Err, End.
-/
import Derived.Test.YtpiafmnfneefiaaU5
namespace Go.Proofs.Ytpiafmnfneefiaa
open Go.RowKit

theorem bev_takeL {l : List Int} {e : Int} {n : Nat} (hb : Byt l) : 0 ≤ bev (takeL l e n) ∧ bev (takeL l e n) < 256 ^ n := by
  unfold takeL
  split
  · refine ⟨by simp [bev], ?_⟩
    have : (0 : Int) < 256 ^ n := Int.pow_pos (by decide)
    simpa [bev] using this
  · rename_i h
    have hl : ¬ l.length < n := fun h' => h (Or.inr h')
    have := bev_bd (l.take n) (hb.take n)
    rw [show (l.take n).length = n by simp; omega] at this
    exact this
theorem IsR.byt {ρ : Nat → Nat} {i : Nat} {w : World} {rb : Nat} {l : List Int} {e : Int} (h : IsR ρ i w rb l e) : Byt l := h.2.2.choose_spec.2.1.byt

theorem IsR.below {ρ : Nat → Nat} {i : Nat} {w w' : World} {rb : Nat} {l : List Int} {e : Int} (h : IsR ρ i w rb l e) (hb : Below w.heap.size w w') : IsR ρ i w' rb l e := by
  obtain ⟨h1, hl, sv, h2, h3, h4⟩ := h
  exact ⟨h1, hl, sv, by rw [hb.block rb (lt_of_block h2)]; exact h2, h3.below hb, h4⟩
theorem IsR.keep {ρ : Nat → Nat} {i j : Nat} {w w' : World} {rb : Nat} {l : List Int} {e : Int} (h : IsR ρ i w rb l e) (hf : FrO ρ j w w') (hij : i ≠ j) : IsR ρ i w' rb l e := by
  obtain ⟨h1, hl, sv, h2, h3, h4⟩ := h
  exact ⟨h1, hl, sv, by rw [hf.block rb (lt_of_block h2) (by rw [h1]; exact hij)]; exact h2, h3.fr hf h4 hij, h4⟩
theorem IsW.keep {ρ : Nat → Nat} {i j : Nat} {w w' : World} {wb : Nat} {l : List Int} {lim e : Int} (h : IsW ρ i w wb l lim e) (hf : FrO ρ j w w') (hij : i ≠ j) : IsW ρ i w' wb l lim e := by
  obtain ⟨h1, h2, h3, h4, h5, ov, h6, h7, h8⟩ := h
  exact ⟨h1, h2, h3, h4, h5, ov, by rw [hf.block wb (lt_of_block h6) (by rw [h1]; exact hij)]; exact h6, own_move h7 fun b hb hlt => hf.block b hlt (by rw [h8 b hb]; exact hij), h8⟩
theorem IsW.below {ρ : Nat → Nat} {i : Nat} {w w' : World} {wb : Nat} {l : List Int} {lim e : Int} (h : IsW ρ i w wb l lim e) (hb : Below w.heap.size w w') : IsW ρ i w' wb l lim e := by
  obtain ⟨h1, h2, h3, h4, h5, ov, h6, h7, h8⟩ := h
  exact ⟨h1, h2, h3, h4, h5, ov, by rw [hb.block wb (lt_of_block h6)]; exact h6, own_move h7 fun b hb' hlt => hb.block b hlt, h8⟩

theorem rU16_any (ρ : Nat → Nat) (i rb : Nat) (l : List Int) (e : Int) (w : World) (h : IsR ρ i w rb l e) : Calls Try.prog 40 #[.pointer (some ⟨rb, 0, none⟩)] w (RNumPost .u16 ρ i rb l e 2 w) := by
  have H := hid h
  have hb := bev_takeL (l := l) (e := e) (n := 2) h.byt
  clear h
  rw [show (256 : Int) ^ 2 = 65536 from rfl] at hb
  go_enter Try.func40, Try.ntmps40
  go_wp2_with (go_at_call 49; refine (rnumber_any ρ i rb l e 2 _ H.out (by omega) (by omega)).mono ?_; rintro en w1 ⟨rfl, hI, hF, hS⟩)
  go_ret
  exact ⟨by first | rfl | (congr 2; omega), hI, hF, hS⟩
/-- what End tells -/
def endE (l : List Int) (e : Int) : Int := if e = 0 ∧ 0 < l.length then 21 else e
/-- the error, what is told and what is left, of any number of bytes asked for -/
def askE (l : List Int) (e n : Int) : Int := if n < 0 then (if e = 0 then 1 else e) else takeE l e n.toNat
def askL (l : List Int) (e n : Int) : List Int := if n < 0 then [] else takeL l e n.toNat
def askR (l : List Int) (e n : Int) : List Int := if n < 0 then l else restL l e n.toNat
def RBytesPost (ρ : Nat → Nat) (i rb : Nat) (l : List Int) (e n : Int) (w : World) (en : Ending) (w' : World) : Prop :=
  ∃ v, en = .returned v ∧ w'.ownsRow w.heap.size 5 1 v (askL l e n).length (bts (askL l e n)) ∧ IsR ρ i w' rb (askR l e n) (askE l e n) ∧ FrO ρ i w w'
end Go.Proofs.Ytpiafmnfneefiaa
