/-
  OptsBack: the walk of the statement.
-/
import Derived.Test.YtebfbpfikbjjlaaDoorFI04
import Derived.Test.YtebfbpfikbjjlaaDoorQ04
namespace Go.Proofs.YtebfbpfikbjjlaaDoor
open Go.RowKit

theorem fits_build {os : List Opt} (h : Fits os) : buildE os = 0 ∧ buildB os = pad (lay os) := build_ok h.1 h.2
set_option maxHeartbeats 1600000 in
set_option maxRecDepth 20000 in
theorem optsBack_any (v : Value) (gs : List HOpt) (w : World) (h : Ropt w v gs) (hT : Tab w) : Calls Tryd.prog 5 #[v] w (BPost w true) := by
  have H := hid h
  have HT := hid hT
  clear h hT
  go_enter Tryd.func5, Tryd.ntmps5
  go_wp2_with fail
  refine (fitting_any _ gs _ H.out).mono ?_
  rintro en w1 ⟨v1, hs, rfl, ho1, hb1, hft⟩
  have R1 := hid ho1.ropt
  have B1 := hid hb1
  have FT := hid hft
  have BY := hid (buildB_byt (ropt_byt ho1.ropt))
  have hE := hid (fits_build hft)
  clear ho1 hb1 hft
  go_wp2_with fail
  refine (build_any _ hs _ R1.out (HT.out.below B1.out)).mono ?_
  rintro en w2 ⟨v2, rfl, ho2, hb2⟩
  have B2 := hid (B1.out.trans (hb2.mono B1.out.size))
  have R12 := hid (R1.out.below hb2)
  have RB := Rb.of_own BY.out ho2
  rw [hE.out.1]
  rw [hE.out.2] at RB
  have hp40 : (pad (lay (hs.map HOpt.o))).length ≤ 40 := pad_le FT.out.2 (by decide)
  have hp4 := pad_mod (lay (hs.map HOpt.o))
  have HP := hid (parse_build FT.out.1)
  have HV := hid (valid_pad FT.out.1 FT.out.2)
  generalize pad (lay (hs.map HOpt.o)) = pl at *
  obtain ⟨a2, c2, rfl, hcc, hcm, _⟩ := RB.open
  unfold maxLen at hcm
  have RB := hid RB
  clear ho2 hb2 BY hE
  go_wp2_with fail
  refine (parse_any _ pl _ RB.out (HT.out.below B2.out) (by omega)).mono ?_
  rintro en w3 ⟨hb3, _, hs3⟩
  obtain ⟨v3, hs', rfl, he3, ho3⟩ := hs3 _ HP.out
  have EQ := hid (decide_eq_true (p := hs.map HOpt.o = hs'.map HOpt.o) he3.symm)
  have R3 := hid ho3.ropt
  have R13 := hid (R12.out.below hb3)
  have RB3 := hid (RB.out.below hb3)
  have B3 := hid (B2.out.trans (hb3.mono B2.out.size))
  clear hs3 he3 ho3 hb3 R12 RB
  go_wp2_with fail
  refine (known_any _ (HT.out.below B3.out)).mono ?_
  rintro en w4 ⟨rfl, hb4⟩
  have R14 := hid (R13.out.below hb4)
  have R34 := hid (R3.out.below hb4)
  have RB4 := hid (RB3.out.below hb4)
  have B4 := hid (B3.out.trans (hb4.mono B3.out.size))
  clear hb4 R13 R3 RB3
  go_wp2_with fail
  refine (valid_any _ pl _ RB4.out (HT.out.below B4.out)).mono ?_
  rintro en w5 ⟨rfl, hb5⟩
  rw [HV.out]
  have R15 := hid (R14.out.below hb5)
  have R35 := hid (R34.out.below hb5)
  have B5 := hid (B4.out.trans (hb5.mono B4.out.size))
  clear hb5 R14 R34
  have hd1 : decide ((pl.length : Int) ≤ 40) = true := by simp; omega
  have hd2 : ((pl.length : Int) % 4 == 0) = true := by simp; omega
  go_wp2_with fail
  refine (sameOpts_any _ _ _ _ _ R15.out R35.out).mono ?_
  rintro en w6 ⟨rfl, hd⟩
  have B6 := hid (B5.out.trans (hd.below _))
  rw [EQ.out]
  clear hd
  go_wp2_with fail
  go_ret
  exact ⟨rfl, B6.out⟩

end Go.Proofs.YtebfbpfikbjjlaaDoor
