/-
  The statements of package udp: same, known.
-/
import Derived.Test.YtpiafmnfneefiaaUdpE
namespace Go.Proofs.Ytpiafmnfneefiaa
open Go.RowKit

def SameRel (w0 : World) (l m : List Int) (t : Value) (wr : World) : Prop := ∃ k : Nat, k ≤ l.length ∧ t = .int .i64 k ∧ l.take k = m.take k ∧ Drw w0 wr
theorem take_ne {l m : List Int} {k : Nat} (_ : k < l.length) (_ : l.length = m.length) (h : gt l k ≠ gt m k) : l ≠ m := fun e => h (by rw [e])
def SamePost (w : World) (b : Bool) (en : Ending) (w' : World) : Prop := en = .returned (.bool b) ∧ Drw w w'
set_option maxHeartbeats 1600000 in
theorem same_any (v u : Value) (l m : List Int) (w : World) (hv : Rb w v l) (hu : Rb w u m) : Calls Try.prog 15 #[v, u] w (SamePost w (decide (l = m))) := by
  have HV := hid hv
  have HU := hid hu
  obtain ⟨a, cap, rfl, hc, hm, hz⟩ := hv.open
  obtain ⟨a2, cap2, rfl, hc2, hm2, hz2⟩ := hu.open
  unfold maxLen at hm hm2
  have HZ := hid hz
  have HZ2 := hid hz2
  clear hv hu hz hz2
  by_cases hlen : l.length = m.length
  · have HL := hid hlen
    have hd : decide ((l.length : Int) = (m.length : Int)) = true := by simp [hlen]
    have hd1 : ((l.length : Int) != (m.length : Int)) = false := by simp [hlen]
    clear hlen
    go_enter Try.func15, Try.ntmps15
    go_wp2_with fail
    go_loopw [5] (fun t wr => SameRel w l m t wr) (fun t _ => l.length - (intOf t).toNat)
    case atStart => exact ⟨0, Nat.zero_le _, rfl, rfl, Drw.refl _⟩
    case round =>
      obtain ⟨k, hk, rfl, hz0, hS⟩ := hrel
      have Z0 := hid hz0
      have HS := hid hS
      clear hz0 hS
      by_cases hlt : k < l.length
      · have hlt2 : k < m.length := by have := HL.out; omega
        rcases HZ.out with h0 | ⟨b, off, rfl, hcell⟩
        · omega
        rcases HZ2.out with h0 | ⟨b2, off2, rfl, hcell2⟩
        · omega
        have hck := (HS.out.same.cell _).trans (hcell k hlt)
        have hck2 := (HS.out.same.cell _).trans (hcell2 k hlt2)
        have hx := HV.out.byt.bd k
        have hy := HU.out.byt.bd k
        have hts := hid (take_snoc hlt)
        have hts2 := hid (take_snoc hlt2)
        have hne := hid (take_ne (m := m) hlt HL.out)
        clear hcell hcell2
        generalize gt l k = x at *
        generalize gt m k = y at *
        by_cases hxy : x = y
        · subst hxy
          go_wp2_with fail
          go_quiet (fail)
          go_wp2
          go_roundw
          case rel => first | exact ⟨k + 1, by omega, by go_num, by rw [hts.out, hts2.out, Z0.out], HS.out.step _⟩ | ((repeat apply Exists.intro); exact ⟨⟨k + 1, by omega, by go_num, by rw [hts.out, hts2.out, Z0.out], HS.out.step _⟩, rfl⟩)
          case measure => (simp [intOf]) <;> omega
        · have hd3 : (x != y) = true := by simp [hxy]
          have hd4 : (x == y) = false := by simp [hxy]
          have HXY := hid hxy
          clear hxy
          go_wp2_with fail
          go_quiet (fail)
          go_wp2
          go_ret
          refine ⟨?_, HS.out.step _⟩
          rw [decide_eq_false (hne.out HXY.out)]
          rfl
      · have hkl : k = l.length := by omega
        subst hkl
        go_wp2_with fail
        go_ret
        refine ⟨?_, HS.out⟩
        have := Z0.out
        rw [List.take_length, HL.out, List.take_length] at this
        rw [decide_eq_true this]
        rfl
  · have hd : decide ((l.length : Int) = (m.length : Int)) = false := by simp; omega
    have hd1 : ((l.length : Int) != (m.length : Int)) = true := by simp; omega
    have hd2 : decide (l = m) = false := decide_eq_false fun e => hlen (by rw [e])
    rw [hd2]
    clear hlen
    go_enter Try.func15, Try.ntmps15
    go_wp2_with fail
    go_ret
    exact ⟨rfl, Drw.refl _⟩


def kS : List Int := [10, 0, 0, 1, 0, 0, 0, 0, 0, 0, 0, 0, 0, 0, 0, 0]
def kD : List Int := [10, 0, 0, 2, 0, 0, 0, 0, 0, 0, 0, 0, 0, 0, 0, 0]
def kR : List Int := [3, 232, 0, 7, 0, 10, 127, 127, 104, 105]
theorem kS_is : IsA 4 kS := ⟨rfl, (by intro x hx; revert x; decide), by decide, by decide⟩
theorem kD_is : IsA 4 kD := ⟨rfl, (by intro x hx; revert x; decide), by decide, by decide⟩
theorem kR_byt : Byt kR := by intro x hx; revert x; decide
theorem k_e : dgE 4 kS 4 kD 1000 7 false [104, 105] = 0 := by decide +kernel
theorem k_r : dgR 4 kS 4 kD 1000 7 false [104, 105] = kR := by decide +kernel
theorem k_p : pgE 4 kS 4 kD kR = 0 := by decide +kernel
theorem k_s : pseOk 4 kS 4 kD 17 10 = true := by decide +kernel
theorem k_h : partL (headL 4 kS kD 17 10) = 5150 := by decide +kernel

end Go.Proofs.Ytpiafmnfneefiaa
