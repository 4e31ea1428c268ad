/-
  OptsBuilds, OptsParses: the walks of the statements.
-/
import Derived.Test.YtebfbpfikbjjlaaDoorK04
namespace Go.Proofs.YtebfbpfikbjjlaaDoor
open Go.RowKit

theorem buildB_byt {os : List Opt} (h : ∀ o ∈ os, Byt o.2) : Byt (buildB os) := by
  unfold buildB
  split
  · rename_i he
    refine pad_byt (lay_byt fun o ho => ⟨?_, h o ho⟩)
    unfold buildE at he
    split at he
    · cases he
    · rename_i hb
      cases hx : badO o with
      | false => rfl
      | true => exact absurd (List.any_eq_true.2 ⟨o, ho, hx⟩) hb
  · exact Byt.nil
theorem ropt_byt {w : World} {v : Value} {hs : List HOpt} (h : Ropt w v hs) : ∀ o ∈ hs.map HOpt.o, Byt o.2 := fun o ho => by
  obtain ⟨x, hx, rfl⟩ := List.mem_map.1 ho
  obtain ⟨j, hj⟩ := List.mem_iff_getElem?.1 hx
  obtain ⟨_, _, _, _, _, h3⟩ := h
  obtain ⟨_, _, _, _, _, r, _⟩ := h3 j x hj
  exact r.byt
theorem carryL_byt {l : List Int} (hl : Byt l) : Byt (carryL l) := by
  unfold carryL optsOf
  split
  · refine buildB_byt fun o ho => ?_
    have hm := (List.mem_filter.1 ho).1
    cases hp : parseL l with
    | none => rw [hp] at hm; cases hm
    | some os => rw [hp] at hm; exact (parse_byt hl hp o hm).2.2.1
  · exact Byt.nil
set_option maxHeartbeats 1600000 in
set_option maxRecDepth 20000 in
theorem optsBuilds_any (v : Value) (hs : List HOpt) (w : World) (h : Ropt w v hs) (hT : Tab w) : Calls Tryd.prog 4 #[v] w (BPost w true) := by
  have H := hid h
  have HT := hid hT
  have BY := hid (buildB_byt (ropt_byt h))
  clear h hT
  go_enter Tryd.func4, Tryd.ntmps4
  go_wp2_with fail
  refine (build_any _ hs _ H.out HT.out).mono ?_
  rintro en w1 ⟨v1, rfl, ho1, hb1⟩
  have R1 := hid (Rb.of_own BY.out ho1)
  have B1 := hid hb1
  clear ho1 hb1
  go_wp2_with fail
  refine (refBuild_any _ hs _ (H.out.below B1.out)).mono ?_
  rintro en w2 ⟨v2, rfl, ho2, hb2⟩
  have R12 := hid (R1.out.below hb2)
  have R2 := hid (Rb.of_own BY.out ho2)
  have B2 := hid (B1.out.trans (hb2.mono B1.out.size))
  clear ho2 hb2 R1
  generalize buildE (hs.map HOpt.o) = e
  have he : (e == e) = true := by simp
  have he2 : decide (e = e) = true := by simp
  go_wp2_with fail
  refine (known_any _ (HT.out.below B2.out)).mono ?_
  rintro en w3 ⟨rfl, hb3⟩
  have R13 := hid (R12.out.below hb3)
  have R23 := hid (R2.out.below hb3)
  have B3 := hid (B2.out.trans (hb3.mono B2.out.size))
  clear hb3 R12 R2
  go_wp2_with fail
  refine (same_any _ _ _ _ _ R13.out R23.out).mono ?_
  rintro en w4 ⟨rfl, hd⟩
  have B4 := hid (B3.out.trans (hd.below _))
  rw [show decide (buildB (hs.map HOpt.o) = buildB (hs.map HOpt.o)) = true from decide_eq_true rfl]
  clear hd
  go_wp2_with fail
  go_ret
  exact ⟨rfl, B4.out⟩

def parE (l : List Int) : Int := if (parseL l).isSome then 0 else 40
theorem ParsePost.all {l : List Int} {w w' : World} {en : Ending} (h : ParsePost l w en w') : ∃ v hs, en = .returned (.tuple #[v, .int .i64 (parE l)]) ∧ hs.map HOpt.o = optsOf l ∧ OwnO w.heap.size w' v hs ∧ Below w.heap.size w w' := by
  obtain ⟨hb, hn, hs⟩ := h
  unfold parE optsOf
  cases hp : parseL l with
  | none => exact ⟨_, [], hn hp, rfl, OwnO.nil _ _, hb⟩
  | some os =>
    obtain ⟨v, hs', e, h1, h2⟩ := hs os hp
    exact ⟨v, hs', e, h1, h2, hb⟩
theorem opts_eq {hs gs : List HOpt} {os : List Opt} (h : hs.map HOpt.o = os) (h2 : gs.map HOpt.o = os) : decide (hs.map HOpt.o = gs.map HOpt.o) = true := decide_eq_true (h.trans h2.symm)
set_option maxHeartbeats 1600000 in
set_option maxRecDepth 20000 in
theorem optsParses_any (v : Value) (l : List Int) (w : World) (h : Rb w v l) (hT : Tab w) (hl : l.length ≤ 1073741824) : Calls Tryd.prog 3 #[v] w (BPost w true) := by
  have H := hid h
  have HT := hid hT
  have BY := hid (carryL_byt h.byt)
  clear h hT
  go_enter Tryd.func3, Tryd.ntmps3
  go_wp2_with fail
  refine (parse_any _ l _ H.out HT.out hl).mono ?_
  intro en w1 hP
  obtain ⟨v1, hs1, rfl, he1, ho1, hb1⟩ := hP.all
  have E1 := hid he1
  have R1 := hid ho1.ropt
  have B1 := hid hb1
  clear hP he1 ho1 hb1
  go_wp2_with fail
  refine (refParse_any _ l _ (H.out.below B1.out) hl).mono ?_
  intro en w2 hP
  obtain ⟨v2, hs2, rfl, he2, ho2, hb2⟩ := hP.all
  have EQ := hid (opts_eq E1.out he2)
  have R12 := hid (R1.out.below hb2)
  have R2 := hid ho2.ropt
  have B2 := hid (B1.out.trans (hb2.mono B1.out.size))
  clear hP he2 ho2 hb2 E1 R1
  generalize parE l = e
  have he : (e == e) = true := by simp
  have he2 : decide (e = e) = true := by simp
  go_wp2_with fail
  refine (known_any _ (HT.out.below B2.out)).mono ?_
  rintro en w3 ⟨rfl, hb3⟩
  have R13 := hid (R12.out.below hb3)
  have R23 := hid (R2.out.below hb3)
  have B3 := hid (B2.out.trans (hb3.mono B2.out.size))
  clear hb3 R12 R2
  go_wp2_with fail
  refine (sameOpts_any _ _ _ _ _ R13.out R23.out).mono ?_
  rintro en w4 ⟨rfl, hd⟩
  have B4 := hid (B3.out.trans (hd.below _))
  rw [EQ.out]
  clear hd
  go_wp2_with fail
  refine (valid_any _ l _ (H.out.below B4.out) (HT.out.below B4.out)).mono ?_
  rintro en w5 ⟨rfl, hb5⟩
  have B5 := hid (B4.out.trans (hb5.mono B4.out.size))
  clear hb5
  go_wp2_with fail
  refine (refValid_any _ l _ (H.out.below B5.out)).mono ?_
  rintro en w6 ⟨rfl, hb6⟩
  have B6 := hid (B5.out.trans (hb6.mono B5.out.size))
  clear hb6
  generalize validB l = vb
  have hvv : (vb == vb) = true := by simp
  have hvv2 : decide (vb = vb) = true := by simp
  go_wp2_with fail
  refine (carry_any _ l _ (H.out.below B6.out) (HT.out.below B6.out)).mono ?_
  rintro en w7 ⟨v7, rfl, ho7, hb7⟩
  have R7 := hid (Rb.of_own BY.out ho7)
  have B7 := hid (B6.out.trans (hb7.mono B6.out.size))
  clear ho7 hb7
  go_wp2_with fail
  refine (refCarry_any _ l _ (H.out.below B7.out)).mono ?_
  rintro en w8 ⟨v8, rfl, ho8, hb8⟩
  have R78 := hid (R7.out.below hb8)
  have R8 := hid (Rb.of_own BY.out ho8)
  have B8 := hid (B7.out.trans (hb8.mono B7.out.size))
  clear ho8 hb8
  go_wp2_with fail
  refine (same_any _ _ _ _ _ R78.out R8.out).mono ?_
  rintro en w9 ⟨rfl, hd⟩
  have B9 := hid (B8.out.trans (hd.below _))
  rw [show decide (carryL l = carryL l) = true from decide_eq_true rfl]
  clear hd
  go_wp2_with fail
  go_ret
  exact ⟨rfl, B9.out⟩

end Go.Proofs.YtebfbpfikbjjlaaDoor
