/-
  One byte of a list is another: its sum, its places.
-/
import Derived.Test.YtpggbbjhbklamaaPSum
namespace Go.Proofs.Ytpggbbjhbklamaa
open Go.RowKit

theorem u8_xor {y q : Int} (hy : 0 ≤ y ∧ y ≤ 255) (hq : 1 ≤ q ∧ q ≤ 255) : (0 ≤ bits .xor .u8 y q ∧ bits .xor .u8 y q ≤ 255) ∧ bits .xor .u8 y q ≠ y := by
  have e : bits .xor .u8 y q = (((BitVec.ofInt 8 y ^^^ BitVec.ofInt 8 q).toNat : Nat) : Int) := by
    show IntKind.u8.wrap ((BitVec.ofInt 8 y ^^^ BitVec.ofInt 8 q).toNat : Nat) = _
    have := (BitVec.ofInt 8 y ^^^ BitVec.ofInt 8 q).isLt
    exact IntWalk.u8_in _ (by omega)
  have hlt := (BitVec.ofInt 8 y ^^^ BitVec.ofInt 8 q).isLt
  rw [e]
  refine ⟨by omega, fun hne => ?_⟩
  have h1 : (BitVec.ofInt 8 y ^^^ BitVec.ofInt 8 q) = BitVec.ofInt 8 y := by
    apply BitVec.eq_of_toNat_eq
    rw [BitVec.toNat_ofInt]
    omega
  have h2 : BitVec.ofInt 8 q = 0#8 := by
    have : BitVec.ofInt 8 y ^^^ (BitVec.ofInt 8 y ^^^ BitVec.ofInt 8 q) = BitVec.ofInt 8 y ^^^ BitVec.ofInt 8 y := by rw [h1]
    rw [← BitVec.xor_assoc, BitVec.xor_self, BitVec.zero_xor] at this
    exact this
  have h3 := congrArg BitVec.toNat h2
  rw [BitVec.toNat_ofInt] at h3
  simp at h3
  omega
theorem wsum_set : ∀ (l : List Int) (k : Nat) (x : Int), k < l.length → wsum (l.set k x) = wsum l + (if k % 2 = 0 then 256 * (x - gt l k) else x - gt l k)
  | [], k, x, h => by simp at h
  | [a], 0, x, _ => by simp [wsum, gt]; omega
  | [a], k + 1, x, h => by simp at h
  | a :: b :: r, 0, x, _ => by simp [wsum, gt]; omega
  | a :: b :: r, 1, x, _ => by simp [wsum, gt]; omega
  | a :: b :: r, k + 2, x, h => by
    have := wsum_set r k x (by simp at h; omega)
    have e : gt (a :: b :: r) (k + 2) = gt r k := by simp [gt]
    simp only [List.set_cons_succ, wsum, this, e]
    by_cases hk : k % 2 = 0
    · rw [if_pos hk, if_pos (by omega)]; omega
    · rw [if_neg hk, if_neg (by omega)]; omega
theorem gt_set_self {l : List Int} {k : Nat} {x : Int} (h : k < l.length) : gt (l.set k x) k = x := by simp [gt, h]
theorem gt_set_ne {l : List Int} {k j : Nat} {x : Int} (h : k ≠ j) : gt (l.set k x) j = gt l j := by simp [gt, h]
end Go.Proofs.Ytpggbbjhbklamaa
