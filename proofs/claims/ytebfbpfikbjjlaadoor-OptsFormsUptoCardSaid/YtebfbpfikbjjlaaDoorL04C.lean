/-
  OptsForms: the walk of the statement.
-/
import Derived.Test.YtebfbpfikbjjlaaDoorL04B
namespace Go.Proofs.YtebfbpfikbjjlaaDoor
open Go.RowKit

def OFRel (w0 : World) (m n : Nat) (t : Value) (wr : World) : Prop := ∃ k : Nat, m ≤ k ∧ k ≤ n ∧ t = .int .i64 k ∧ Below w0.heap.size w0 wr
set_option maxHeartbeats 3200000 in
set_option maxRecDepth 20000 in
theorem optsForms_any (v : Value) (l : List Int) (w : World) (h : Rb w v l) (hT : Tab w) (hl : l.length ≤ 1073741824) : Calls Tryd.prog 6 #[v] w (BPost w true) := by
  obtain ⟨i0, hi, hz0, hz1, hz2⟩ := info_parts Tryd.info5
  have H := hid h
  have HT := hid hT
  obtain ⟨a, cap, rfl, hc, hm, hz⟩ := h.open
  unfold maxLen at hm
  have HZ := hid hz
  clear h hT hz
  go_enter Tryd.func6, Tryd.ntmps6
  go_wp2_with fail
  refine (parse_any _ l _ H.out HT.out hl).mono ?_
  intro en w1 hP
  obtain ⟨v1, hs, rfl, he1, ho1, hb1⟩ := hP.all
  have E1 := hid he1
  have R1 := hid ho1.ropt
  have B1 := hid hb1
  clear hP he1 ho1 hb1
  go_wp2_with fail
  refine (known_any _ (HT.out.below B1.out)).mono ?_
  rintro en w2 ⟨rfl, hb2⟩
  have R12 := hid (R1.out.below hb2)
  have B2 := hid (B1.out.trans (hb2.mono B1.out.size))
  clear hb2 R1
  go_wp2_with fail
  refine (valid_any _ l _ (H.out.below B2.out) (HT.out.below B2.out)).mono ?_
  rintro en w3 ⟨rfl, hb3⟩
  have R13 := hid (R12.out.below hb3)
  have B3 := hid (B2.out.trans (hb3.mono B2.out.size))
  clear hb3 R12
  by_cases hv : validB l = true
  · have hv' := hv
    unfold validB at hv'
    simp only [Bool.and_eq_true, decide_eq_true_eq] at hv'
    obtain ⟨⟨h40, h4⟩, hp⟩ := hv'
    have hpe : parE l = 0 := by unfold parE; rw [if_pos hp]
    obtain ⟨os, hos⟩ := Option.isSome_iff_exists.1 hp
    obtain ⟨j, hj⟩ := parse_form H.out.byt hos
    have hlen := form_len hj
    have hg := good_of (parse_ok H.out.byt hos) (by omega)
    have e1 := E1.out
    unfold optsOf at e1
    rw [hos] at e1
    simp only [Option.getD_some] at e1
    have hE := hid (build_ok (e1 ▸ hg) (by rw [e1]; omega))
    have hple : (pad (lay os)).length ≤ l.length := pad_le (by omega) h4
    have EP := hid (show l.take (pad (lay os)).length = pad (lay os) by
      rw [hj]
      have hpl := pad_len (lay os)
      rw [List.take_append, List.take_of_length_le (by omega), hpl, show (lay os).length + padN (lay os).length - (lay os).length = padN (lay os).length by omega, List.take_replicate, Nat.min_eq_left (by omega)]
      rfl)
    have EZ := hid (show ∀ k, (pad (lay os)).length ≤ k → k < l.length → gt l k = 0 from fun k hk hkl => by
      have hpl := pad_len (lay os)
      rw [gt_eq hkl]
      simp only [hj]
      rw [List.getElem_append_right (by omega)]
      simp)
    have E1' := hid e1
    rw [hv, hpe]
    have hd1 : ((l.length : Int) % 4 == 0) = true := by simp; omega
    have hd2 : decide ((l.length : Int) ≤ 40) = true := by simp; omega
    have BY := hid (pad_byt (lay_byt (os := os) fun o ho => ⟨hg o ho, (parse_ok H.out.byt hos o ho).2.2.1⟩))
    have HVV := hid hv
    clear hv hp hpe hos hj hg e1 hlen h4
    go_wp2_with fail
    refine (valid_any _ l _ (H.out.below B3.out) (HT.out.below B3.out)).mono ?_
    rintro en w4 ⟨rfl, hb4⟩
    rw [HVV.out]
    have R14 := hid (R13.out.below hb4)
    have B4 := hid (B3.out.trans (hb4.mono B3.out.size))
    clear hb4 R13
    go_wp2_with fail
    refine (build_any _ hs _ R14.out (HT.out.below B4.out)).mono ?_
    rintro en w5 ⟨v5, rfl, ho5, hb5⟩
    rw [hE.out.1]
    rw [hE.out.2, E1'.out] at ho5
    have B5 := hid (B4.out.trans (hb5.mono B4.out.size))
    generalize pad (lay os) = pl at *
    have RB := hid (Rb.of_own BY.out ho5)
    obtain ⟨a5, c5, rfl, hcc, hcm, _⟩ := RB.out.open
    unfold maxLen at hcm
    have hsl : ∀ W, Sem.run Tryd.prog (Instr.slice 22 (.slice a l.length cap) none (some (.int .i64 (pl.length : Int))) none) W = .ok (.slice a pl.length cap) W := fun W =>
      run_slice_h_sub (P := Tryd.prog) 22 5 Tryd.underlying22 hi hz1 a l.length cap .i64 (pl.length : Int) pl.length rfl (by omega) W
    have RF := hid ((H.out.below B5.out).front pl.length hple)
    rw [EP.out] at RF
    have hd3 : decide ((l.length : Int) < (pl.length : Int)) = false := by simp; omega
    have hd4 : decide (l.length < pl.length) = false := by simp; omega
    clear ho5 hb5
    go_wp2_with fail
    refine (same_any _ _ _ _ _ RB.out RF.out).mono ?_
    rintro en w6 ⟨rfl, hd⟩
    have B6 := hid (B5.out.trans (hd.below _))
    rw [show decide (pl = pl) = true from decide_eq_true rfl]
    clear hd RF
    go_wp2_with fail
    go_loopw [7] (fun t wr => OFRel w pl.length l.length t wr) (fun t _ => l.length - (intOf t).toNat)
    case atStart => exact ⟨pl.length, Nat.le_refl _, hple, rfl, B6.out⟩
    case round =>
      clear B6
      obtain ⟨k, hk0, hk, rfl, hB⟩ := hrel
      have B := hid hB
      clear hB
      by_cases hlt : k < l.length
      · rcases HZ.out with h0 | ⟨b, off, rfl, hcell⟩
        · omega
        have hck := (B.out.cell (p := ⟨b, off + k, none⟩) (World.block_lt_of_cell? _ _ (hcell k hlt))).trans (hcell k hlt)
        rw [EZ.out k hk0 hlt] at hck
        clear hcell
        go_wp2_with fail
        go_roundw
        case rel => exact ⟨k + 1, by omega, by omega, by go_num, B.out⟩
        case measure => simp [intOf]; omega
      · have hkl : k = l.length := by omega
        subst hkl
        go_wp2_with fail
        go_ret
        exact ⟨rfl, B.out⟩
  · have hv0 : validB l = false := by simpa using hv
    clear hv
    have HV0 := hid hv0
    rw [hv0]
    cases hp : parseL l with
    | none =>
      have hpe : parE l = 40 := by unfold parE; rw [hp]; rfl
      have hs0 : hs = [] := by have := E1.out; unfold optsOf at this; rw [hp] at this; simpa using this
      subst hs0
      obtain ⟨a1, c1, rfl, _⟩ := R13.out
      rw [hpe]
      clear hv0 hp hpe
      go_wp2_with fail
      refine (valid_any _ l _ (H.out.below B3.out) (HT.out.below B3.out)).mono ?_
      rintro en w4 ⟨rfl, hb4⟩
      rw [HV0.out]
      have B4 := hid (B3.out.trans (hb4.mono B3.out.size))
      clear hb4
      go_wp2_with fail
      go_ret
      exact ⟨rfl, B4.out⟩
    | some os =>
      have hpe : parE l = 0 := by unfold parE; rw [hp]; rfl
      rw [hpe]
      have hnot : ¬ (l.length ≤ 40 ∧ l.length % 4 = 0) := fun e => by
        have := valid_small e
        rw [hv0, hp] at this
        cases this
      clear hv0 hp hpe
      by_cases h4 : l.length % 4 = 0
      · have hd1 : ((l.length : Int) % 4 == 0) = true := by simp; omega
        have hd2 : decide ((l.length : Int) ≤ 40) = false := by simp; omega
        clear hnot h4
        go_wp2_with fail
        refine (valid_any _ l _ (H.out.below B3.out) (HT.out.below B3.out)).mono ?_
        rintro en w4 ⟨rfl, hb4⟩
        rw [HV0.out]
        have B4 := hid (B3.out.trans (hb4.mono B3.out.size))
        clear hb4
        go_wp2_with fail
        go_ret
        exact ⟨rfl, B4.out⟩
      · have hd1 : ((l.length : Int) % 4 == 0) = false := by simp; omega
        clear hnot h4
        go_wp2_with fail
        refine (valid_any _ l _ (H.out.below B3.out) (HT.out.below B3.out)).mono ?_
        rintro en w4 ⟨rfl, hb4⟩
        rw [HV0.out]
        have B4 := hid (B3.out.trans (hb4.mono B3.out.size))
        clear hb4
        go_wp2_with fail
        go_ret
        exact ⟨rfl, B4.out⟩

end Go.Proofs.YtebfbpfikbjjlaaDoor
