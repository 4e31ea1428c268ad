/-
  mosaicref01: the document's sums.
-/
import Derived.Test.YtpiafmnfneefiaaSum
namespace Go.Proofs.Ytpiafmnfneefiaa
open Go.RowKit

theorem refRest_any (n : Int) (w : World) (h0 : 0 ≤ n) (h1 : n ≤ 9223372036854775807) : Calls Try.prog 45 #[.int .i64 n] w fun en w' => en = .returned (.int .i64 (foldL n)) ∧ w = w' := by
  by_cases hn : n = 0
  · subst hn
    go_enter Try.func45, Try.ntmps45
    go_wp2
    go_ret
    exact ⟨rfl, rfl⟩
  · have hb : (n == 0) = false := by simp [hn]
    by_cases hr : n % 65535 = 0
    · have e := hid (show foldL n = 65535 by unfold foldL; rw [if_neg hn]; omega)
      have hb2 : (n % 65535 == 0) = true := by simp [hr]
      clear hn hr
      go_enter Try.func45, Try.ntmps45
      go_wp2
      go_ret
      exact ⟨by rw [e.out]; rfl, rfl⟩
    · have e := hid (show foldL n = n % 65535 by unfold foldL; rw [if_neg hn]; omega)
      have hb2 : (n % 65535 == 0) = false := by simp [hr]
      clear hn hr
      go_enter Try.func45, Try.ntmps45
      go_wp2
      go_ret
      exact ⟨by rw [e.out]; rfl, rfl⟩
theorem wsum_take {l : List Int} {k : Nat} (h : k < l.length) : wsum (l.take (k + 1)) = wsum (l.take k) + if k % 2 = 0 then 256 * gt l k else gt l k := by
  rw [take_snoc h, wsum_snoc, show (l.take k).length = k by simp; omega]
def RefPartPost (l : List Int) (w : World) (en : Ending) (w' : World) : Prop := en = .returned (.int .i64 (partL l)) ∧ w = w'
set_option maxHeartbeats 1600000 in
theorem refPart_any (bv : Value) (l : List Int) (w : World) (h : Rb w bv l) (hl : l.length ≤ 70368744177664) : Calls Try.prog 27 #[bv] w (RefPartPost l w) := by
  have HB := hid h
  obtain ⟨a, cap, rfl, hc, hm, hz⟩ := h.open
  unfold maxLen at hm
  have HZ := hid hz
  clear h hz
  go_enter Try.func27, Try.ntmps27
  go_wp2_with fail
  go_loop [3, 4] (fun n t => ∃ k : Nat, k ≤ l.length ∧ t = .int .i64 k ∧ n = .int .i64 (wsum (l.take k))) (fun _ t => l.length - (intOf t).toNat)
  case atStart => exact ⟨0, Nat.zero_le _, rfl, by simp [wsum]⟩
  case round =>
    obtain ⟨k, hk, rfl, rfl⟩ := hrel
    have hwb := wsum_bd (HB.out.byt.take k)
    have htl : (l.take k).length ≤ k := List.length_take_le _ _
    by_cases hlt : k < l.length
    · rcases HZ.out with h0 | ⟨b, off, rfl, hcell⟩
      · omega
      have hck := hcell k hlt
      have hx := HB.out.byt.bd k
      have hwt := hid (wsum_take hlt)
      generalize gt l k = x at *
      generalize wsum (l.take k) = n at *
      clear hcell
      by_cases hp : k % 2 = 0
      · have hd : ((k : Int) % 2 == 0) = true := by simp; omega
        have hwt := hid (show wsum (l.take (k + 1)) = n + 256 * x by rw [hwt.out, if_pos hp])
        go_wp2_with fail
        go_round
        case rel => exact ⟨k + 1, by omega, by go_num, by rw [hwt.out]⟩
        case measure => simp [intOf]; omega
      · have hd : ((k : Int) % 2 == 0) = false := by simp; omega
        have hwt := hid (show wsum (l.take (k + 1)) = n + x by rw [hwt.out, if_neg hp])
        go_wp2_with fail
        go_round
        case rel => exact ⟨k + 1, by omega, by go_num, by rw [hwt.out]⟩
        case measure => simp [intOf]; omega
    · have hkl : k = l.length := by omega
      subst hkl
      rw [List.take_length] at hwb ⊢
      have HW := hid (show partL l = foldL (wsum l) from rfl)
      generalize wsum l = n at *
      go_wp2_with fail
      refine (refRest_any n _ hwb.1 (by omega)).mono ?_
      rintro en w' ⟨rfl, rfl⟩
      go_wp2_with fail
      go_ret
      exact ⟨by rw [HW.out]; rfl, rfl⟩
theorem refOf_any (bv : Value) (l : List Int) (w : World) (h : Rb w bv l) (hl : l.length ≤ 70368744177664) : Calls Try.prog 38 #[bv] w fun en w' => en = .returned (.int .i64 (65535 - partL l)) ∧ w = w' := by
  have hb := partL_bd h.byt
  have H := hid h
  clear h
  go_enter Try.func38, Try.ntmps38
  go_wp2_with fail
  refine (refPart_any bv l _ H.out hl).mono ?_
  rintro en w' ⟨rfl, rfl⟩
  generalize hp : partL l = n at *
  have HP := hid hp
  clear hp
  go_wp2_with fail
  go_ret
  exact ⟨by rw [HP.out]; rfl, rfl⟩

end Go.Proofs.Ytpiafmnfneefiaa
