/-
  One's complement sums on plain numbers.
-/
import Derived.Test.YtaecfcaeopmiaaaDoorBase
namespace Go.Proofs.YtaecfcaeopmiaaaDoor

/-- the one's complement sum whose plain sum is n -/
def foldL (n : Int) : Int := if n = 0 then 0 else (n - 1) % 65535 + 1
theorem foldL_bd {n : Int} (_ : 0 ≤ n) : 0 ≤ foldL n ∧ foldL n ≤ 65535 := by unfold foldL; split <;> omega
theorem foldL_small {n : Int} (h0 : 0 ≤ n) (h1 : n ≤ 65535) : foldL n = n := by unfold foldL; split <;> omega
theorem foldL_step {n : Int} (h : 65535 < n) : foldL (n / 65536 + n % 65536) = foldL n := by
  unfold foldL
  rw [if_neg (by omega), if_neg (by omega)]
  omega
theorem foldL_zero {n : Int} (_ : 0 ≤ n) : foldL n = 0 ↔ n = 0 := by unfold foldL; split <;> omega
theorem foldL_add {a b : Int} (ha : 0 ≤ a) (hb : 0 ≤ b) : foldL (foldL a + b) = foldL (a + b) := by
  have h1 := foldL_bd ha
  by_cases h0 : a = 0
  · subst h0; rfl
  · have e : foldL a = (a - 1) % 65535 + 1 := by unfold foldL; rw [if_neg h0]
    rw [e]
    unfold foldL
    rw [if_neg (by omega), if_neg (by omega)]
    omega
theorem foldL_add' {a b : Int} (ha : 0 ≤ a) (hb : 0 ≤ b) : foldL (a + foldL b) = foldL (a + b) := by rw [Int.add_comm, foldL_add hb ha, Int.add_comm]
/-- the sum of the words -/
def wsum : List Int → Int
  | [] => 0
  | [a] => 256 * a
  | a :: b :: r => 256 * a + b + wsum r
theorem wsum_bd : ∀ {l : List Int}, Byt l → 0 ≤ wsum l ∧ wsum l ≤ 65535 * l.length
  | [], _ => by simp [wsum]
  | [a], h => by have := h a (by simp); simp [wsum]; omega
  | a :: b :: r, h => by
    have h1 := h a (by simp)
    have h2 := h b (by simp)
    have h3 := wsum_bd (l := r) fun x hx => h x (by simp [hx])
    simp only [wsum, List.length_cons]
    omega
theorem wsum_even : ∀ (p r : List Int), p.length % 2 = 0 → wsum (p ++ r) = wsum p + wsum r
  | [], r, _ => by simp [wsum]
  | [a], r, h => by simp at h
  | a :: b :: p, r, h => by
    have := wsum_even p r (by simp at h; omega)
    simp only [List.cons_append, wsum, this]
    omega
theorem wsum_snoc : ∀ (p : List Int) (x : Int), wsum (p ++ [x]) = wsum p + if p.length % 2 = 0 then 256 * x else x
  | [], x => by simp [wsum]
  | [a], x => by simp [wsum]
  | a :: b :: p, x => by
    have := wsum_snoc p x
    simp only [List.cons_append, wsum, this, List.length_cons]
    by_cases h : p.length % 2 = 0
    · rw [if_pos h, if_pos (by omega)]; omega
    · rw [if_neg h, if_neg (by omega)]; omega
def partL (l : List Int) : Int := foldL (wsum l)
theorem partL_bd {l : List Int} (h : Byt l) : 0 ≤ partL l ∧ partL l ≤ 65535 := foldL_bd (wsum_bd h).1
theorem partL_even {p r : List Int} (hp : Byt p) (hr : Byt r) (h : p.length % 2 = 0) : partL (p ++ r) = foldL (partL p + partL r) := by
  unfold partL
  rw [wsum_even p r h, foldL_add (wsum_bd hp).1 (foldL_bd (wsum_bd hr).1).1, foldL_add' (wsum_bd hp).1 (wsum_bd hr).1]

end Go.Proofs.YtaecfcaeopmiaaaDoor
