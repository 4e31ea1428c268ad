/-
  Bits of 16-bit numbers.
-/
import Derived.Test.YtaecfcaeopmiaaaDoorBase
namespace Go.Proofs.YtaecfcaeopmiaaaDoor
open Go.RowKit

theorem u16_xor (p : Int) (h0 : 0 ≤ p) (h1 : p ≤ 65535) : bits .xor .u16 IntKind.u16.max p = 65535 - p := by
  have e : BitVec.ofInt 16 IntKind.u16.max = BitVec.allOnes 16 := by decide
  show IntKind.u16.wrap ((BitVec.ofInt 16 IntKind.u16.max ^^^ BitVec.ofInt 16 p).toNat : Nat) = _
  rw [e, BitVec.allOnes_xor, BitVec.toNat_not, BitVec.toNat_ofInt, IntKind.wrap_u16]
  omega
theorem u16_xor' (p : Int) (h0 : 0 ≤ p) (h1 : p ≤ 65535) : bits .xor .u16 (if IntKind.u16.signed = true then -1 else IntKind.u16.max) p = 65535 - p := by
  rw [if_neg (by decide)]; exact u16_xor p h0 h1
theorem u16_of {n : Int} (h0 : 0 ≤ n) (h1 : n ≤ 65535) : (BitVec.ofInt 16 n).toNat = n.toNat := by rw [BitVec.toNat_ofInt]; omega
theorem u16_or14 {x : Int} (h0 : 0 ≤ x) (h1 : x < 16384) : bits .or .u16 x 16384 = x + 16384 := by
  show IntKind.u16.wrap ((BitVec.ofInt 16 x ||| BitVec.ofInt 16 16384).toNat : Nat) = _
  rw [BitVec.toNat_or, u16_of h0 (by omega), u16_of (by decide) (by decide), Nat.or_comm, show (16384 : Int).toNat = 2 ^ 14 * 1 by decide, ← Nat.two_pow_add_eq_or_of_lt (by omega)]
  rw [IntWalk.u16_in _ (by omega)]
  omega
theorem u16_or13 {x : Int} (h0 : 0 ≤ x) (h1 : x < 8192) : bits .or .u16 x 8192 = x + 8192 := by
  show IntKind.u16.wrap ((BitVec.ofInt 16 x ||| BitVec.ofInt 16 8192).toNat : Nat) = _
  rw [BitVec.toNat_or, u16_of h0 (by omega), u16_of (by decide) (by decide), Nat.or_comm, show (8192 : Int).toNat = 2 ^ 13 * 1 by decide, ← Nat.two_pow_add_eq_or_of_lt (by omega)]
  rw [IntWalk.u16_in _ (by omega)]
  omega
theorem u16_or13' {x : Int} (h0 : 0 ≤ x) (h1 : x < 8192) : bits .or .u16 (x + 16384) 8192 = x + 16384 + 8192 := by
  show IntKind.u16.wrap ((BitVec.ofInt 16 (x + 16384) ||| BitVec.ofInt 16 8192).toNat : Nat) = _
  have e : (x + 16384).toNat = 2 ^ 14 * 1 + x.toNat := by omega
  rw [BitVec.toNat_or, u16_of (by omega) (by omega), u16_of (by decide) (by decide), e, Nat.two_pow_add_eq_or_of_lt (by omega), Nat.or_assoc, Nat.or_comm x.toNat, show (8192 : Int).toNat = 2 ^ 13 * 1 by decide, ← Nat.two_pow_add_eq_or_of_lt (i := 13) (by omega), ← Nat.two_pow_add_eq_or_of_lt (i := 14) (by omega)]
  rw [IntWalk.u16_in _ (by omega)]
  omega
theorem nat_and_pow (x i : Nat) : x &&& 2 ^ i = x / 2 ^ i % 2 * 2 ^ i := by
  refine Nat.eq_of_testBit_eq fun j => ?_
  rw [Nat.testBit_and, Nat.testBit_two_pow, Nat.testBit_mul_two_pow]
  by_cases hj : i = j
  · subst hj
    rw [Nat.testBit_eq_decide_div_mod_eq, Nat.testBit_eq_decide_div_mod_eq]
    simp
  · by_cases hlt : i ≤ j
    · have h1 : (x / 2 ^ i % 2).testBit (j - i) = false := Nat.testBit_lt_two_pow (Nat.lt_of_lt_of_le (Nat.mod_lt _ (by decide)) (by
        have : 2 ^ 1 ≤ 2 ^ (j - i) := Nat.pow_le_pow_right (by decide) (by omega)
        omega))
      simp [hj, h1]
    · simp [hj, hlt]
theorem u16_andp {x : Int} (h0 : 0 ≤ x) (h1 : x ≤ 65535) (i : Nat) (hi : i ≤ 15) : bits .and .u16 x ((2 ^ i : Nat) : Int) = x / ((2 ^ i : Nat) : Int) % 2 * ((2 ^ i : Nat) : Int) := by
  have hp : 2 ^ i ≤ 2 ^ 15 := Nat.pow_le_pow_right (by decide) hi
  have hp2 : ((2 ^ i : Nat) : Int) ≤ 65535 := by
    have : (2 ^ i : Nat) ≤ 32768 := hp
    omega
  show IntKind.u16.wrap ((BitVec.ofInt 16 x &&& BitVec.ofInt 16 ((2 ^ i : Nat) : Int)).toNat : Nat) = _
  rw [BitVec.toNat_and, u16_of h0 h1, u16_of (Int.natCast_nonneg _) hp2, Int.toNat_natCast, nat_and_pow]
  have e : x / ((2 ^ i : Nat) : Int) = ((x.toNat / 2 ^ i : Nat) : Int) := by
    rw [Int.natCast_ediv, Int.toNat_of_nonneg h0]
  rw [e]
  have h2 : x.toNat / 2 ^ i % 2 < 2 := Nat.mod_lt _ (by decide)
  have h3 : x.toNat / 2 ^ i % 2 * 2 ^ i ≤ 1 * 2 ^ 15 := Nat.mul_le_mul (by omega) hp
  have h4 : x.toNat / 2 ^ i % 2 * 2 ^ i ≤ 32768 := h3
  rw [IntWalk.u16_in _ (by omega)]
  simp only [Int.natCast_mul, Int.natCast_emod]
  rfl
theorem u16_and13 {x : Int} (h0 : 0 ≤ x) (h1 : x ≤ 65535) : bits .and .u16 x 8192 = x / 8192 % 2 * 8192 := u16_andp h0 h1 13 (by decide)
theorem u16_and14 {x : Int} (h0 : 0 ≤ x) (h1 : x ≤ 65535) : bits .and .u16 x 16384 = x / 16384 % 2 * 16384 := u16_andp h0 h1 14 (by decide)
theorem u16_and15 {x : Int} (h0 : 0 ≤ x) (h1 : x ≤ 65535) : bits .and .u16 x 32768 = x / 32768 % 2 * 32768 := u16_andp h0 h1 15 (by decide)
theorem bit_ne {x m : Int} (hm : 0 < m) : (x / m % 2 * m != 0) = decide (x / m % 2 = 1) := by
  have h : x / m % 2 = 0 ∨ x / m % 2 = 1 := by omega
  rcases h with h | h
  · rw [h]; simp
  · rw [h]; simp; omega
end Go.Proofs.YtaecfcaeopmiaaaDoor
