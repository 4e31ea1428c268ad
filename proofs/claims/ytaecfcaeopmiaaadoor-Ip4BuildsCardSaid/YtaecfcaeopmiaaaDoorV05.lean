/-
  opts.Valid.
-/
import Derived.Test.YtaecfcaeopmiaaaDoorPA04
namespace Go.Proofs.YtaecfcaeopmiaaaDoor
open Go.RowKit

def BPost (w : World) (b : Bool) (en : Ending) (w' : World) : Prop := en = .returned (.bool b) ∧ Below w.heap.size w w'
theorem valid_small {l : List Int} (h : l.length ≤ 40 ∧ l.length % 4 = 0) : validB l = (parseL l).isSome := by unfold validB; simp [h.1, h.2]
theorem valid_big {l : List Int} (h : ¬(l.length ≤ 40 ∧ l.length % 4 = 0)) : validB l = false := by
  unfold validB
  by_cases h1 : l.length ≤ 40
  · have h2 : ¬ l.length % 4 = 0 := fun e => h ⟨h1, e⟩
    simp [h2]
  · simp [h1]
set_option maxHeartbeats 800000 in
theorem optsValid_any (v : Value) (l : List Int) (w : World) (h : Rb w v l) (hT : Tab w) : Calls Tryd.prog 34 #[v] w (BPost w (validB l)) := by
  have HB := hid h
  have HT := hid hT
  obtain ⟨a, cap, rfl, hc, hm, _⟩ := h.open
  unfold maxLen at hm
  clear h hT
  by_cases hs : l.length ≤ 40 ∧ l.length % 4 = 0
  · rw [valid_small hs]
    obtain ⟨h1, h2⟩ := hs
    have hd1 : decide ((40 : Int) < (l.length : Int)) = false := by simp; omega
    have hd2 : ((l.length : Int) % 4 != 0) = false := by simp; omega
    go_enter Tryd.func34, Tryd.ntmps34
    go_wp2_with fail
    refine (parse_any _ l _ HB.out HT.out (by omega)).mono ?_
    rintro en w' ⟨hb, hn, hs⟩
    have BB := hid hb
    clear hb
    cases hp : parseL l with
    | none =>
      obtain rfl := hn hp
      have HP := hid hp
      clear hn hs hp
      go_wp2_with fail
      go_ret
      exact ⟨by rw [HP.out]; rfl, BB.out⟩
    | some os =>
      obtain ⟨v', hs', rfl, _, _⟩ := hs os hp
      have HP := hid hp
      clear hn hs hp
      go_wp2_with fail
      go_ret
      exact ⟨by rw [HP.out]; rfl, BB.out⟩
  · rw [valid_big hs]
    by_cases h1 : l.length ≤ 40
    · have hd1 : decide ((40 : Int) < (l.length : Int)) = false := by simp; omega
      have hd2 : ((l.length : Int) % 4 != 0) = true := by simp; omega
      clear hs
      go_enter Tryd.func34, Tryd.ntmps34
      go_wp2_with fail
      go_ret
      exact ⟨rfl, Below.refl _ _⟩
    · have hd1 : decide ((40 : Int) < (l.length : Int)) = true := by simp; omega
      clear hs
      go_enter Tryd.func34, Tryd.ntmps34
      go_wp2_with fail
      go_ret
      exact ⟨rfl, Below.refl _ _⟩
end Go.Proofs.YtaecfcaeopmiaaaDoor
