/-
  Valid and Carry, the program's and the document's; the chapter's first examples.
-/
import Derived.Test.YtebfbpfikbjjlaaDoorD04
namespace Go.Proofs.YtebfbpfikbjjlaaDoor
open Go.RowKit

def BPost (w : World) (b : Bool) (en : Ending) (w' : World) : Prop := en = .returned (.bool b) ∧ Below w.heap.size w w'
theorem valid_small {l : List Int} (h : l.length ≤ 40 ∧ l.length % 4 = 0) : validB l = (parseL l).isSome := by unfold validB; simp [h.1, h.2]
theorem valid_big {l : List Int} (h : ¬(l.length ≤ 40 ∧ l.length % 4 = 0)) : validB l = false := by
  unfold validB
  by_cases h1 : l.length ≤ 40
  · have h2 : ¬ l.length % 4 = 0 := fun e => h ⟨h1, e⟩
    simp [h2]
  · simp [h1]
set_option maxHeartbeats 800000 in
theorem valid_any (v : Value) (l : List Int) (w : World) (h : Rb w v l) (hT : Tab w) : Calls Tryd.prog 14 #[v] w (BPost w (validB l)) := by
  have HB := hid h
  have HT := hid hT
  obtain ⟨a, cap, rfl, hc, hm, _⟩ := h.open
  unfold maxLen at hm
  clear h hT
  by_cases hs : l.length ≤ 40 ∧ l.length % 4 = 0
  · rw [valid_small hs]
    obtain ⟨h1, h2⟩ := hs
    have hd1 : decide ((40 : Int) < (l.length : Int)) = false := by simp; omega
    have hd2 : ((l.length : Int) % 4 != 0) = false := by simp; omega
    go_enter Tryd.func14, Tryd.ntmps14
    go_wp2_with fail
    refine (parse_any _ l _ HB.out HT.out (by omega)).mono ?_
    rintro en w' ⟨hb, hn, hs⟩
    have BB := hid hb
    clear hb
    cases hp : parseL l with
    | none =>
      obtain rfl := hn hp
      have HP := hid hp
      clear hn hs hp
      go_wp2_with fail
      go_ret
      exact ⟨by rw [HP.out]; rfl, BB.out⟩
    | some os =>
      obtain ⟨v', hs', rfl, _, _⟩ := hs os hp
      have HP := hid hp
      clear hn hs hp
      go_wp2_with fail
      go_ret
      exact ⟨by rw [HP.out]; rfl, BB.out⟩
  · rw [valid_big hs]
    by_cases h1 : l.length ≤ 40
    · have hd1 : decide ((40 : Int) < (l.length : Int)) = false := by simp; omega
      have hd2 : ((l.length : Int) % 4 != 0) = true := by simp; omega
      clear hs
      go_enter Tryd.func14, Tryd.ntmps14
      go_wp2_with fail
      go_ret
      exact ⟨rfl, Below.refl _ _⟩
    · have hd1 : decide ((40 : Int) < (l.length : Int)) = true := by simp; omega
      clear hs
      go_enter Tryd.func14, Tryd.ntmps14
      go_wp2_with fail
      go_ret
      exact ⟨rfl, Below.refl _ _⟩
set_option maxHeartbeats 800000 in
theorem refValid_any (v : Value) (l : List Int) (w : World) (h : Rb w v l) : Calls Tryd.prog 15 #[v] w (BPost w (validB l)) := by
  have HB := hid h
  obtain ⟨a, cap, rfl, hc, hm, _⟩ := h.open
  unfold maxLen at hm
  clear h
  by_cases hs : l.length ≤ 40 ∧ l.length % 4 = 0
  · rw [valid_small hs]
    obtain ⟨h1, h2⟩ := hs
    have hd1 : decide ((40 : Int) < (l.length : Int)) = false := by simp; omega
    have hd2 : ((l.length : Int) % 4 != 0) = false := by simp; omega
    go_enter Tryd.func15, Tryd.ntmps15
    go_wp2_with fail
    refine (refParse_any _ l _ HB.out (by omega)).mono ?_
    rintro en w' ⟨hb, hn, hs⟩
    have BB := hid hb
    clear hb
    cases hp : parseL l with
    | none =>
      obtain rfl := hn hp
      have HP := hid hp
      clear hn hs hp
      go_wp2_with fail
      go_ret
      exact ⟨by rw [HP.out]; rfl, BB.out⟩
    | some os =>
      obtain ⟨v', hs', rfl, _, _⟩ := hs os hp
      have HP := hid hp
      clear hn hs hp
      go_wp2_with fail
      go_ret
      exact ⟨by rw [HP.out]; rfl, BB.out⟩
  · rw [valid_big hs]
    by_cases h1 : l.length ≤ 40
    · have hd1 : decide ((40 : Int) < (l.length : Int)) = false := by simp; omega
      have hd2 : ((l.length : Int) % 4 != 0) = true := by simp; omega
      clear hs
      go_enter Tryd.func15, Tryd.ntmps15
      go_wp2_with fail
      go_ret
      exact ⟨rfl, Below.refl _ _⟩
    · have hd1 : decide ((40 : Int) < (l.length : Int)) = true := by simp; omega
      clear hs
      go_enter Tryd.func15, Tryd.ntmps15
      go_wp2_with fail
      go_ret
      exact ⟨rfl, Below.refl _ _⟩

/-! ### Carry -/
def CarryPost (l : List Int) (w : World) (en : Ending) (w' : World) : Prop :=
  ∃ v, en = .returned v ∧ w'.ownsRow w.heap.size 5 1 v (carryL l).length (bts (carryL l)) ∧ Below w.heap.size w w'
theorem carry_none {l : List Int} {w w' : World} (h : validB l = false) (hb : Below w.heap.size w w') : CarryPost l w (.returned (.slice none 0 0)) w' := by
  have e : carryL l = [] := by unfold carryL; rw [h]; rfl
  exact ⟨_, rfl, by rw [e]; exact World.ownsRow_nil _ _ _ _, hb⟩
theorem filter_o (hs : List HOpt) : (hs.filter hiH).map HOpt.o = (hs.map HOpt.o).filter highB := by
  induction hs with
  | nil => rfl
  | cons h hs ih =>
    simp only [List.filter_cons, List.map_cons]
    have e : highB h.o = hiH h := rfl
    rw [e]
    cases hiH h <;> simp [ih]
theorem carry_some {l : List Int} {os : List Opt} (h : validB l = true) (hp : parseL l = some os) : carryL l = buildB (os.filter highB) := by
  unfold carryL optsOf; rw [if_pos h, hp]; rfl
set_option maxHeartbeats 800000 in
theorem carry_any (v : Value) (l : List Int) (w : World) (h : Rb w v l) (hT : Tab w) : Calls Tryd.prog 17 #[v] w (CarryPost l w) := by
  have HB := hid h
  have HT := hid hT
  clear h hT
  go_enter Tryd.func17, Tryd.ntmps17
  go_wp2_with fail
  refine (valid_any _ l _ HB.out HT.out).mono ?_
  rintro en w1 ⟨rfl, hb1⟩
  have B1 := hid hb1
  clear hb1
  cases hv : validB l with
  | false =>
    have F := hid (carry_none hv B1.out)
    clear hv
    go_wp2_with fail
    go_ret
    exact F.out
  | true =>
    have hlen : l.length ≤ 40 := by
      have := hv
      unfold validB at this
      simp at this
      exact this.1.1
    obtain ⟨os, hp⟩ : ∃ os, parseL l = some os := by
      have := hv
      unfold validB at this
      simp at this
      exact Option.isSome_iff_exists.1 this.2
    have CS := hid (carry_some hv hp)
    have HP := hid hp
    clear hv hp
    go_wp2_with fail
    refine (parse_any _ l _ (HB.out.below B1.out) (HT.out.below B1.out) (by omega)).mono ?_
    rintro en w2 ⟨hb2, _, hs⟩
    obtain ⟨v2, hs2, rfl, he, ho⟩ := hs os HP.out
    have B2 := hid hb2
    have E2 := hid he
    have O2 := hid ho
    clear hs hb2 he ho
    go_wp2_with fail
    refine (del_any _ _ hs2 _ O2.out B2.out.size).mono ?_
    rintro en w3 ⟨v3, rfl, hr3, hb3⟩
    have B3 := hid hb3
    have R3 := hid hr3
    have HT3 := hid ((HT.out.below B1.out).below (B2.out.trans B3.out))
    clear hb3 hr3
    go_wp2_with fail
    refine (build_any _ _ _ R3.out HT3.out).mono ?_
    rintro en w4 ⟨v4, rfl, ho4, hb4⟩
    have B4 := hid ((B1.out.trans ((B2.out.trans B3.out).mono B1.out.size)).trans (hb4.mono (by have h1 := B1.out.size; have h2 := B2.out.size; have h3 := B3.out.size; omega)))
    have F := hid (show CarryPost l w (.returned v4) w4 from ⟨_, rfl, by rw [CS.out, ← E2.out, ← filter_o]; exact own_base ho4 (by have h1 := B1.out.size; have h2 := B2.out.size; have h3 := B3.out.size; omega), B4.out⟩)
    clear ho4 hb4
    go_wp2_with fail
    go_ret
    exact F.out

def RCRel (w0 : World) (hs : List HOpt) (cv t : Value) (wr : World) : Prop :=
  ∃ k : Nat, k ≤ hs.length ∧ t = .int .i64 k ∧ wr.ownsRow w0.heap.size 38 2 cv ((hs.take k).filter hiH).length (ocells ((hs.take k).filter hiH)) ∧ Below w0.heap.size w0 wr
set_option maxHeartbeats 1600000 in
set_option maxRecDepth 20000 in
theorem refCarry_any (v : Value) (l : List Int) (w : World) (h : Rb w v l) : Calls Tryd.prog 18 #[v] w (CarryPost l w) := by
  obtain ⟨i2, hi2, hz20, hz21, hz22⟩ := info_parts info_opt
  have HB := hid h
  clear h
  go_enter Tryd.func18, Tryd.ntmps18
  go_wp2_with fail
  refine (refValid_any _ l _ HB.out).mono ?_
  rintro en w1 ⟨rfl, hb1⟩
  have B1 := hid hb1
  clear hb1
  cases hv : validB l with
  | false =>
    have F := hid (carry_none hv B1.out)
    clear hv
    go_wp2_with fail
    go_ret
    exact F.out
  | true =>
    have hlen : l.length ≤ 40 := by
      have := hv
      unfold validB at this
      simp at this
      exact this.1.1
    obtain ⟨os, hp⟩ : ∃ os, parseL l = some os := by
      have := hv
      unfold validB at this
      simp at this
      exact Option.isSome_iff_exists.1 this.2
    have CS := hid (carry_some hv hp)
    have HP := hid hp
    have hol := parse_count hp
    clear hv hp
    go_wp2_with fail
    refine (refParse_any _ l _ (HB.out.below B1.out) (by omega)).mono ?_
    rintro en w2 ⟨hb2, _, hs⟩
    obtain ⟨v2, hs2, rfl, he, ho⟩ := hs os HP.out
    have B2 := hid (B1.out.trans (hb2.mono B1.out.size))
    have hn : hs2.length ≤ 40 := by have := congrArg List.length he; simp at this; omega
    have E2 := hid he
    have R2 := hid ho.ropt
    obtain ⟨a, cap, rfl, hc, hm, _⟩ := R2.out
    unfold maxLen at hm
    clear hs hb2 he ho
    go_wp2_with fail
    go_loopw [5, 6] (fun cv t wr => RCRel w2 hs2 cv t wr) (fun _ t _ => hs2.length - (intOf t).toNat)
    case atStart => exact ⟨0, Nat.zero_le _, rfl, World.ownsRow_nil _ _ _ _, Below.refl _ _⟩
    case round =>
      obtain ⟨k, hk, rfl, hR, hB⟩ := hrel
      have R := hid hR
      have B := hid hB
      have hBs := hB.size
      clear hR hB
      by_cases hlt : k < hs2.length
      · obtain ⟨x, hx⟩ : ∃ x, hs2[k]? = some x := ⟨hs2[k], List.getElem?_eq_getElem hlt⟩
        obtain ⟨b, off, av, cv, rfl, hve, c0, c1, hrb, _, hkb⟩ := ropt_at (R2.out.below B.out) hx
        have TS := hid (take_filter_snoc hx)
        have hfl := List.length_filter_le hiH (hs2.take k)
        have htl : (hs2.take k).length ≤ k := List.length_take_le _ _
        generalize hF : (hs2.take k).filter hiH = F at *
        have HF := hid hF
        clear hx hrb hF
        by_cases hh : 128 ≤ x.k
        · have hd : decide (128 ≤ x.k) = true := decide_eq_true hh
          have TS2 := hid (show (hs2.take (k + 1)).filter hiH = F ++ [x] by rw [TS.out]; unfold hiH; rw [hd]; rfl)
          have HX := hid (show ocells [x] = [.int .i64 x.k, .slice av x.l.length cv] by simp [ocells, hve])
          clear TS hve
          generalize x.k = kx at *
          generalize x.l = lx at *
          go_wp2_with (at_builtin; go_loud (refine wpList_append_kept rfl _ _ 23 rfl w2.heap.size 38 i2 _ 2 32 Tryd.underlying23 hi2 hz20 hz21 hz22 rfl (by decide) u5 F.length _ rfl (R.out.alloc _) ⟨wr.heap.size, 0, none⟩ 1 1 (by decide) [.int .i64 kx, .slice av lx.length cv] rfl rfl (new_cells (heap_alloc_new wr _)) (by simp [Value.oneCell']) (by unfold maxLen; omega) (by omega) (by simp; omega) ?_); intro g5 c5 w5 ho hat)
          have S := hid (show RCRel w2 hs2 (.slice (some ⟨g5, 0, none⟩) (F.length + 1) c5) (.int .i64 ((k : Int) + 1)) w5 from by
            refine ⟨k + 1, by omega, by go_num, ?_, ?_⟩
            · rw [TS2.out, List.length_append, ocells_append, HX.out]
              exact ho
            · rcases hat with ⟨e, hg⟩ | ⟨_, hb⟩
              · exact (B.out.alloc hBs _).grown hg (by simp; omega) fun g' hg' => by obtain rfl := Option.some.inj hg'; exact (R.out.lt _ e).1
              · exact (B.out.alloc hBs _).trans (hb.mono (by simp; omega)))
          clear ho hat
          go_roundw
          case rel => exact S.out
          case measure => simp [intOf]; omega
        · have hd : decide (128 ≤ x.k) = false := decide_eq_false hh
          have TS2 := hid (show (hs2.take (k + 1)).filter hiH = F by rw [TS.out]; unfold hiH; rw [hd]; simp)
          clear TS hve
          generalize x.k = kx at *
          generalize x.l = lx at *
          go_wp2_with fail
          go_roundw
          case rel => exact ⟨k + 1, by omega, by go_num, by rw [TS2.out]; exact R.out, B.out⟩
          case measure => simp [intOf]; omega
      · have hkl : k = hs2.length := by omega
        subst hkl
        have R3 := hid (show Ropt wr u5 (hs2.filter hiH) from Ropt.of_own (by have := R.out; rw [List.take_length] at this; exact this) fun x hx => by
          obtain ⟨j, hj⟩ := List.mem_iff_getElem?.1 (List.mem_filter.1 hx).1
          obtain ⟨_, _, _, _, _, h3⟩ := R2.out.below B.out
          obtain ⟨_, _, _, _, _, r, q⟩ := h3 j x hj
          exact ⟨r, q⟩)
        go_wp2_with fail
        refine (refBuild_any _ _ _ R3.out).mono ?_
        rintro en w4 ⟨v4, rfl, ho4, hb4⟩
        have hs2s := B2.out.size
        have F := hid (show CarryPost l w (.returned v4) w4 from ⟨_, rfl, by rw [CS.out, ← E2.out, ← filter_o]; exact own_base ho4 (by omega), (B2.out.trans (B.out.mono hs2s)).trans (hb4.mono (by omega))⟩)
        clear ho4 hb4
        go_wp2_with fail
        go_ret
        exact F.out

end Go.Proofs.YtebfbpfikbjjlaaDoor
