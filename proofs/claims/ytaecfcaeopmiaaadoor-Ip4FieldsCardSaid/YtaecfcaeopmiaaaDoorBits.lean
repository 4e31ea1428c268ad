/-
  Bits of whole numbers, as the walks of the ip packages meet them.
-/
import Derived.Test.YtaecfcaeopmiaaaDoorGen
namespace Go.Proofs.YtaecfcaeopmiaaaDoor
open Go.RowKit

theorem nat_and_low {x m : Nat} (i : Nat) (hm : m < 2 ^ i) : x &&& m = (x % 2 ^ i) &&& m := by
  apply Nat.eq_of_testBit_eq
  intro j
  rw [Nat.testBit_and, Nat.testBit_and, Nat.testBit_mod_two_pow]
  by_cases hj : j < i
  · simp [hj]
  · have : m.testBit j = false := Nat.testBit_lt_two_pow (Nat.lt_of_lt_of_le hm (Nat.pow_le_pow_right (by decide) (by omega)))
    simp [this]
theorem i64_of_nat {n : Int} (h0 : 0 ≤ n) (h1 : n < 9223372036854775808) : (BitVec.ofInt 64 n).toNat = n.toNat := by rw [BitVec.toNat_ofInt]; omega
theorem i64_and6 {n : Int} (h0 : 0 ≤ n) (h1 : n < 9223372036854775808) : bits .and .i64 n 6 = n / 2 % 4 * 2 := by
  show IntKind.i64.wrap ((BitVec.ofInt 64 n &&& BitVec.ofInt 64 6).toNat : Nat) = _
  rw [BitVec.toNat_and, i64_of_nat h0 h1, show (BitVec.ofInt 64 6).toNat = 6 from rfl, nat_and_low 3 (by decide)]
  have key : ∀ r : Fin 8, (r.val &&& 6) = r.val / 2 * 2 := by decide
  have hr : n.toNat % 2 ^ 3 < 8 := Nat.mod_lt _ (by decide)
  have := key ⟨n.toNat % 2 ^ 3, hr⟩
  simp only at this
  rw [this]
  have e := IntWalk.i64_in ((n.toNat % 2 ^ 3 / 2 * 2 : Nat) : Int) (by omega)
  rw [e]
  omega
theorem i64_and1' {n : Int} (h0 : 0 ≤ n) (h1 : n < 9223372036854775808) : bits .and .i64 n 1 = n % 2 := by
  show IntKind.i64.wrap ((BitVec.ofInt 64 n &&& BitVec.ofInt 64 1).toNat : Nat) = _
  rw [BitVec.toNat_and, i64_of_nat h0 h1, show (BitVec.ofInt 64 1).toNat = 1 from rfl, nat_and_low 1 (by decide)]
  have hr : n.toNat % 2 ^ 1 < 2 := Nat.mod_lt _ (by decide)
  have key : ∀ r : Fin 2, (r.val &&& 1) = r.val := by decide
  have := key ⟨n.toNat % 2 ^ 1, hr⟩
  simp only at this
  rw [this]
  have e := IntWalk.i64_in ((n.toNat % 2 ^ 1 : Nat) : Int) (by omega)
  rw [e]
  omega
theorem i64_andNot7 {n : Int} (h0 : 0 ≤ n) (h1 : n < 9223372036854775808) : bits .andNot .i64 n 7 = n / 8 * 8 := by
  have e0 : bits .andNot .i64 n 7 = IntKind.i64.wrap ((BitVec.ofInt 64 n &&& ~~~ BitVec.ofInt 64 7).toNat : Nat) := rfl
  rw [e0]
  have e1 : (BitVec.ofInt 64 n &&& ~~~ BitVec.ofInt 64 7).toNat = n.toNat / 8 * 8 := by
    apply Nat.eq_of_testBit_eq
    intro j
    rw [← BitVec.getLsbD, BitVec.getLsbD_and, BitVec.getLsbD_not]
    have hx : (BitVec.ofInt 64 n).getLsbD j = n.toNat.testBit j := by rw [BitVec.getLsbD, i64_of_nat h0 h1]
    have h7 : (BitVec.ofInt 64 7).getLsbD j = (7 : Nat).testBit j := rfl
    rw [hx, h7, show n.toNat / 8 * 8 = 2 ^ 3 * (n.toNat / 2 ^ 3) by omega, Nat.testBit_two_pow_mul, Nat.testBit_div_two_pow]
    by_cases hj : j < 3
    · have : (7 : Nat).testBit j = true := by
        match j, hj with
        | 0, _ => rfl
        | 1, _ => rfl
        | 2, _ => rfl
      simp [this]; omega
    · have h7f : (7 : Nat).testBit j = false := Nat.testBit_lt_two_pow (Nat.lt_of_lt_of_le (by decide : 7 < 2 ^ 3) (Nat.pow_le_pow_right (by decide) (by omega)))
      rw [h7f, show j - 3 + 3 = j by omega]
      by_cases h64 : j < 64
      · simp [h64]; omega
      · have : n.toNat.testBit j = false := Nat.testBit_lt_two_pow (Nat.lt_of_lt_of_le (by omega : n.toNat < 2 ^ 63) (Nat.pow_le_pow_right (by decide) (by omega)))
        simp [this]
  rw [e1]
  have e := IntWalk.i64_in ((n.toNat / 8 * 8 : Nat) : Int) (by omega)
  rw [e]
  omega
theorem i64_or_byte {y x : Int} (hy : 0 ≤ y ∧ y ≤ 255) (hx : 0 ≤ x ∧ x ≤ 255) : bits .or .i64 (y * 256) x = y * 256 + x := by
  show IntKind.i64.wrap ((BitVec.ofInt 64 (y * 256) ||| BitVec.ofInt 64 x).toNat : Nat) = _
  rw [BitVec.toNat_or, i64_of_nat (by omega) (by omega), i64_of_nat (by omega) (by omega), show (y * 256).toNat = 2 ^ 8 * y.toNat by omega, ← Nat.two_pow_add_eq_or_of_lt (by omega)]
  have e := IntWalk.i64_in ((2 ^ 8 * y.toNat + x.toNat : Nat) : Int) (by omega)
  rw [e]
  omega
theorem u32_and_low {n : Int} (h0 : 0 ≤ n) (h1 : n < 4294967296) (m : Nat) (hm : m ≤ 31) : bits .and .u32 n ((2 ^ m - 1 : Nat) : Int) = n % ((2 ^ m : Nat) : Int) := by
  have hp : 2 ^ m ≤ 2 ^ 31 := Nat.pow_le_pow_right (by decide) hm
  have hp0 : 0 < 2 ^ m := Nat.two_pow_pos m
  have e1 : (BitVec.ofInt 32 n).toNat = n.toNat := by rw [BitVec.toNat_ofInt]; omega
  have e2 : (BitVec.ofInt 32 ((2 ^ m - 1 : Nat) : Int)).toNat = 2 ^ m - 1 := by
    rw [BitVec.toNat_ofInt]
    have : (2 ^ m - 1 : Nat) < 2 ^ 32 := by omega
    omega
  show IntKind.u32.wrap ((BitVec.ofInt 32 n &&& BitVec.ofInt 32 ((2 ^ m - 1 : Nat) : Int)).toNat : Nat) = _
  rw [BitVec.toNat_and, e1, e2, Nat.and_two_pow_sub_one_eq_mod]
  have hlt : n.toNat % 2 ^ m < 2 ^ m := Nat.mod_lt _ hp0
  have e := IntWalk.u32_in ((n.toNat % 2 ^ m : Nat) : Int) (by omega)
  rw [e]
  rw [Int.natCast_emod, Int.toNat_of_nonneg h0]
theorem u32_and255 {n : Int} (h0 : 0 ≤ n) (h1 : n < 4294967296) : bits .and .u32 n 255 = n % 256 := u32_and_low h0 h1 8 (by decide)
theorem u32_and20 {n : Int} (h0 : 0 ≤ n) (h1 : n < 4294967296) : bits .and .u32 n 1048575 = n % 1048576 := u32_and_low h0 h1 20 (by decide)
end Go.Proofs.YtaecfcaeopmiaaaDoor
