/-
  Bits of a signed number at hand.
-/
import Derived.Test.YtpggbbjhbklamaaBase
namespace Go.Proofs.Ytpggbbjhbklamaa
open Go.RowKit

theorem i64_nat (n : Int) : (BitVec.ofInt 64 n).toNat = (n % 18446744073709551616).toNat := by rw [BitVec.toNat_ofInt]; rfl
theorem i64_andlow (n : Int) (m : Nat) (c : Int) (hc : (BitVec.ofInt 64 c).toNat = 2 ^ m - 1) (hm : m ≤ 62) : bits .and .i64 n c = n % ((2 ^ m : Nat) : Int) := by
  have hp : 2 ^ m ≤ 2 ^ 62 := Nat.pow_le_pow_right (by decide) hm
  have hp0 : 0 < 2 ^ m := Nat.two_pow_pos m
  show IntKind.i64.wrap ((BitVec.ofInt 64 n &&& BitVec.ofInt 64 c).toNat : Nat) = _
  rw [BitVec.toNat_and, hc, Nat.and_two_pow_sub_one_eq_mod, i64_nat]
  have hlt : (n % 18446744073709551616).toNat % 2 ^ m < 2 ^ m := Nat.mod_lt _ hp0
  rw [IntWalk.i64_in _ (by omega), Int.natCast_emod, Int.toNat_of_nonneg (by omega)]
  have hd : ((2 ^ m : Nat) : Int) ∣ 18446744073709551616 := by
    have : (2 ^ m : Nat) ∣ 2 ^ 64 := Nat.pow_dvd_pow 2 (by omega)
    exact Int.natCast_dvd_natCast.2 this
  exact Int.emod_emod_of_dvd n hd
theorem i64_and255 (n : Int) : bits .and .i64 n 255 = n % 256 := i64_andlow n 8 255 (by decide) (by decide)
end Go.Proofs.Ytpggbbjhbklamaa
