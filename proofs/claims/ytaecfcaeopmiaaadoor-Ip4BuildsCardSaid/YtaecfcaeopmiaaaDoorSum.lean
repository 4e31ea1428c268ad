/-
  package sum: fold, Part, Add; the document's own sums.
-/
import Derived.Test.YtaecfcaeopmiaaaDoorGen
import Derived.Test.YtaecfcaeopmiaaaDoorPSum
import Derived.Test.YtaecfcaeopmiaaaDoorDrw
namespace Go.Proofs.YtaecfcaeopmiaaaDoor
open Go.RowKit

theorem u64_and_low (n : Int) (m : Nat) (c : Int) (hc : (BitVec.ofInt 64 c).toNat = 2 ^ m - 1) (hm : m ≤ 62) : bits .and .u64 n c = n % ((2 ^ m : Nat) : Int) := by
  have key : (BitVec.ofInt 64 n &&& BitVec.ofInt 64 c).toNat = (n % ((2 ^ 64 : Nat) : Int)).toNat % 2 ^ m := by
    rw [BitVec.toNat_and, BitVec.toNat_ofInt, hc, Nat.and_two_pow_sub_one_eq_mod]
  show IntKind.u64.wrap ((BitVec.ofInt 64 n &&& BitVec.ofInt 64 c).toNat : Nat) = _
  have hlt : (n % ((2 ^ 64 : Nat) : Int)).toNat % 2 ^ m < 2 ^ 62 := Nat.lt_of_lt_of_le (Nat.mod_lt _ (Nat.two_pow_pos m)) (Nat.pow_le_pow_right (by decide) hm)
  rw [key, IntKind.wrap_u64]
  have e1 : (((n % ((2 ^ 64 : Nat) : Int)).toNat % 2 ^ m : Nat) : Int) = n % ((2 ^ m : Nat) : Int) := by
    rw [Int.natCast_emod, Int.toNat_of_nonneg (Int.emod_nonneg _ (by decide))]
    exact Int.emod_emod_of_dvd _ (by exact_mod_cast Nat.pow_dvd_pow 2 (by omega : m ≤ 64))
  rw [← e1]
  omega
theorem u64_and16 (n : Int) : bits .and .u64 n 65535 = n % 65536 := u64_and_low n 16 65535 (by decide) (by decide)
set_option maxHeartbeats 800000 in
theorem fold_any (n : Int) (w : World) (h0 : 0 ≤ n) (h1 : n ≤ 9223372036854775807) : Calls Tryd.prog 74 #[.int .u64 n] w fun en w' => en = .returned (.int .u16 (foldL n)) ∧ w = w' := by
  go_enter Tryd.func74, Tryd.ntmps74
  go_wp2_with fail
  go_loop [0] (fun t => ∃ m : Int, t = .int .u64 m ∧ 0 ≤ m ∧ m ≤ n ∧ Hid (foldL m = foldL n)) (fun t => (intOf t).toNat)
  case atStart => exact ⟨n, rfl, h0, Int.le_refl _, hid rfl⟩
  case round =>
    obtain ⟨m, rfl, hm0, hm1, hF⟩ := hrel
    by_cases hgt : 65535 < m
    · have hd : decide ((65535 : Int) < m) = true := decide_eq_true hgt
      have ha := u64_and16 m
      go_wp2_with fail
      go_round
      case rel => exact ⟨m / 65536 + m % 65536, rfl, by omega, by omega, hid (by rw [foldL_step hgt]; exact hF.out)⟩
      case measure => simp [intOf]; omega
    · have hd : decide ((65535 : Int) < m) = false := decide_eq_false hgt
      go_wp2_with fail
      go_ret
      have := hF.out
      rw [foldL_small hm0 (by omega)] at this
      refine ⟨?_, rfl⟩
      rw [this]
      rfl

theorem u64_or_byte (y x : Int) (hy0 : 0 ≤ y) (hy : y ≤ 255) (hx0 : 0 ≤ x) (hx : x ≤ 255) : bits .or .u64 (y * 256) x = y * 256 + x := by
  have key : ∀ a b : Fin 256, bits .or .u64 ((a.val : Int) * 256) (b.val : Int) = (a.val : Int) * 256 + b.val := by
    intro a b
    show IntKind.u64.wrap ((BitVec.ofInt 64 ((a.val : Int) * 256) ||| BitVec.ofInt 64 (b.val : Int)).toNat : Nat) = _
    have h1 : (BitVec.ofInt 64 ((a.val : Int) * 256) ||| BitVec.ofInt 64 (b.val : Int)).toNat = a.val * 256 + b.val := by
      rw [BitVec.toNat_or, BitVec.toNat_ofInt, BitVec.toNat_ofInt]
      have e1 : (((a.val : Int) * 256) % ((2 ^ 64 : Nat) : Int)).toNat = a.val * 256 := by omega
      have e2 : ((b.val : Int) % ((2 ^ 64 : Nat) : Int)).toNat = b.val := by omega
      rw [e1, e2]
      have := Nat.shiftLeft_add_eq_or_of_lt (i := 8) (show b.val < 2 ^ 8 by omega) a.val
      rw [Nat.shiftLeft_eq] at this
      exact this.symm
    rw [h1, IntKind.wrap_u64]
    omega
  have := key ⟨y.toNat, by omega⟩ ⟨x.toNat, by omega⟩
  simp only at this
  rwa [Int.toNat_of_nonneg hy0, Int.toNat_of_nonneg hx0] at this
def PartRel (w0 : World) (l : List Int) (bv n : Value) (wr : World) : Prop := ∃ p r : List Int, l = p ++ r ∧ p.length % 2 = 0 ∧ Rb w0 bv r ∧ n = .int .u64 (wsum p) ∧ Drw w0 wr
def PartPost (l : List Int) (w : World) (en : Ending) (w' : World) : Prop := en = .returned (.int .u16 (partL l)) ∧ Drw w w'
set_option maxHeartbeats 1600000 in
set_option maxRecDepth 20000 in
theorem part_any (bv : Value) (l : List Int) (w : World) (h : Rb w bv l) (hl : l.length ≤ 70368744177664) : Calls Tryd.prog 66 #[bv] w (PartPost l w) := by
  obtain ⟨i0, hi, hz0, hz1, hz2⟩ := info_parts Tryd.info5
  have HB := hid h
  clear h
  go_enter Tryd.func66, Tryd.ntmps66
  go_wp2_with fail
  go_loopw [0, 3] (fun bv n wr => PartRel w l bv n wr) (fun bv _ _ => slen bv)
  case atStart => exact ⟨[], l, rfl, rfl, HB.out, rfl, Drw.refl _⟩
  case round =>
    obtain ⟨p, r, hpr, hp, hR, rfl, hD⟩ := hrel
    have hlen := congrArg List.length hpr
    rw [List.length_append] at hlen
    have hby := HB.out.byt
    rw [hpr] at hby
    have hbp : Byt p := fun x hx => hby x (List.mem_append.2 (Or.inl hx))
    have hbr : Byt r := hR.byt
    have hwp := wsum_bd hbp
    have R := hid hR
    have D := hid hD
    have E := hid hpr
    have P0 := hid hp
    have hpl : p.length ≤ 70368744177664 := by omega
    have hrl : r.length ≤ 70368744177664 := by omega
    obtain ⟨a, cap, rfl, hc, hm, hz⟩ := hR.open
    unfold maxLen at hm
    have HZ := hid hz
    have HLN := hid hlen
    clear hR hD hpr hp hlen hz hby
    by_cases h2 : 2 ≤ r.length
    · have hd : decide ((2 : Int) ≤ (r.length : Int)) = true := by simp; omega
      rcases HZ.out with h0 | ⟨b, off, rfl, hcell⟩
      · omega
      have c0 := (D.out.same.cell _).trans (hcell 0 (by omega))
      have c1 := (D.out.same.cell _).trans (hcell 1 (by omega))
      rw [Nat.add_zero] at c0
      have hx := hbr.bd 0
      have hy := hbr.bd 1
      have hsl : ∀ W, Sem.run Tryd.prog (Instr.slice 22 (.slice (some ⟨b, off, none⟩) r.length cap) (some (.int .i64 2)) none none) W = .ok (.slice (subA (some ⟨b, off, none⟩) 2 cap) (r.length - 2) (cap - 2)) W := fun W =>
        run_slice_l_sub (P := Tryd.prog) 22 5 Tryd.underlying22 hi hz1 (some ⟨b, off, none⟩) r.length cap .i64 2 2 rfl (by omega) W
      have RN := hid (R.out.back 2 h2)
      have E2 := hid (show r = [gt r 0, gt r 1] ++ r.drop 2 from by
        match r, h2 with
        | x :: y :: r', _ => rfl)
      generalize gt r 0 = x at *
      generalize gt r 1 = y at *
      have hor := u64_or_byte x y hx.1 hx.2 hy.1 hy.2
      generalize hwn : wsum p = n at *
      have HWN := hid hwn
      have hw1 : IntKind.u64.wrap (x * 256) = x * 256 := IntWalk.u64_in _ (by omega)
      have hw2 : IntKind.u64.wrap (n + (x * 256 + y)) = n + (x * 256 + y) := IntWalk.u64_in _ (by omega)
      have h21 : (1 : Int) < r.length := by omega
      clear hcell hwn
      go_wp2_with fail
      go_quiet (fail)
      go_wp2
      go_roundw
      case rel =>
        have e : Hid (PartRel w l (.slice (subA (some ⟨b, off, none⟩) 2 cap) (r.length - 2) (cap - 2)) (.int .u64 (n + (x * 256 + y))) (wr.drewN nq)) := hid
          ⟨p ++ [x, y], r.drop 2, by rw [E.out, List.append_assoc, ← E2.out], by have := P0.out; simp; omega, RN.out, by rw [wsum_even _ _ P0.out, HWN.out]; simp only [wsum]; congr 1; omega, D.out.step _⟩
        first | exact e.out | ((repeat apply Exists.intro); exact ⟨e.out, rfl⟩)
      case measure => simp [slen_mk]; omega
    · have hd : decide ((2 : Int) ≤ (r.length : Int)) = false := by simp; omega
      have EW := hid (show partL l = foldL (wsum p + wsum r) by unfold partL; rw [E.out, wsum_even _ _ P0.out])
      by_cases h1 : r.length = 1
      · rcases HZ.out with h0 | ⟨b, off, rfl, hcell⟩
        · omega
        have c0 := (D.out.same.cell _).trans (hcell 0 (by omega))
        rw [Nat.add_zero] at c0
        have hx := hbr.bd 0
        have E2 := hid (show wsum r = 256 * gt r 0 from by
          match r, h1 with
          | [x], _ => rfl)
        generalize gt r 0 = x at *
        rw [h1] at hd
        have HR1 := hid h1
        generalize r.length = m at *
        subst h1
        generalize hwn : wsum p = n at *
        have HWN := hid hwn
        have hw1 : IntKind.u64.wrap (x * 256) = x * 256 := IntWalk.u64_in _ (by omega)
        have hw2 : IntKind.u64.wrap (n + x * 256) = n + x * 256 := IntWalk.u64_in _ (by omega)
        clear hcell hwn
        go_wp2_with fail
        refine (fold_any (n + x * 256) _ (by omega) (by omega)).mono ?_
        rintro en w' ⟨rfl, rfl⟩
        go_wp2_with fail
        go_ret
        refine ⟨?_, D.out⟩
        rw [EW.out, E2.out, Int.mul_comm]
        rfl
      · have h0 : r = [] := List.length_eq_zero_iff.1 (by omega)
        subst h0
        have hb1 : (((0 : Nat) : Int) == 1) = false := by decide
        generalize hwn : wsum p = n at *
        have HWN := hid hwn
        clear hwn h2
        go_wp2_with fail
        refine (fold_any n _ (by omega) (by omega)).mono ?_
        rintro en w' ⟨rfl, rfl⟩
        go_wp2_with fail
        go_ret
        refine ⟨?_, D.out⟩
        rw [EW.out]
        simp [wsum]

end Go.Proofs.YtaecfcaeopmiaaaDoor
