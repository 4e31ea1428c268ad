/-
  OptsPieces: its helper and the walk of the statement.
-/
import Derived.Test.YtebfbpfikbjjlaaDoorL04B
import Derived.Test.YtebfbpfikbjjlaaDoorApp
namespace Go.Proofs.YtebfbpfikbjjlaaDoor
open Go.RowKit

def ERel (w0 : World) (hs : List HOpt) (n t : Value) (wr : World) : Prop := ∃ k : Nat, k ≤ hs.length ∧ t = .int .i64 k ∧ n = .int .i64 ((lay ((hs.take k).map HOpt.o)).length : Int) ∧ w0 = wr
set_option maxHeartbeats 1600000 in
set_option maxRecDepth 20000 in
theorem ended_any (bv v : Value) (l : List Int) (hs : List HOpt) (w : World) (hb : Rb w bv l) (h : Ropt w v hs) (hk : ∀ o ∈ hs.map HOpt.o, okO o) (hle : (lay (hs.map HOpt.o)).length ≤ 1073741824) :
    Calls Tryd.prog 22 #[bv, v] w fun en w' => en = .returned (.bool (decide ((lay (hs.map HOpt.o)).length < l.length))) ∧ w = w' := by
  have H := hid h
  have HK := hid hk
  have HLE := hid hle
  obtain ⟨ab, capb, rfl, hcb, hmb, _⟩ := hb.open
  obtain ⟨a, cap, rfl, hc, hm, _⟩ := h
  unfold maxLen at hm hmb
  clear hb hk hle
  go_enter Tryd.func22, Tryd.ntmps22
  go_wp2_with fail
  go_loop [5, 6] (fun n t => ∃ k : Nat, k ≤ hs.length ∧ t = .int .i64 k ∧ n = .int .i64 ((lay ((hs.take k).map HOpt.o)).length : Int)) (fun _ t => hs.length - (intOf t).toNat)
  case atStart => exact ⟨0, Nat.zero_le _, rfl, by simp [lay]⟩
  case round =>
    obtain ⟨k, hk, rfl, rfl⟩ := hrel
    by_cases hlt : k < hs.length
    · obtain ⟨x, hx⟩ : ∃ x, hs[k]? = some x := ⟨hs[k], List.getElem?_eq_getElem hlt⟩
      obtain ⟨b, off, av, cv, rfl, hve, c0, c1, hrb, _, hkb⟩ := ropt_at H.out hx
      obtain ⟨o1, o2, _, o4, o5⟩ := HK.out x.o (List.mem_map.2 ⟨x, List.mem_of_getElem? hx, rfl⟩)
      have LS := hid (lay_snoc_len hx)
      have LE := lay_take_le hs (k + 1)
      have hLE := HLE.out
      have LO := hid (layO_len x.o)
      have e1 : x.o.1 = x.k := rfl
      have e2 : x.o.2 = x.l := rfl
      rw [e1] at o1 o2 o5
      rw [e2] at o4
      rw [e1, e2] at LO
      have LK := hid (lay_take_le hs k)
      have hlk : (lay ((hs.take k).map HOpt.o)).length ≤ 1073741824 := by have := LK.out; omega
      generalize hLL : (lay ((hs.take k).map HOpt.o)).length = LL at *
      have LS2 := hid (show (lay ((hs.take (k + 1)).map HOpt.o)).length = LL + (layO x.o).length by rw [LS.out, List.length_append, hLL])
      clear hx hve hrb hLL e1 e2 LS LE o5
      generalize x.l = lx at *
      generalize x.k = kx at *
      by_cases h1 : 1 < kx
      · have hd : decide (1 < kx) = true := decide_eq_true h1
        have LO2 := hid (show (layO x.o).length = 2 + lx.length by rw [LO.out, if_neg (by omega)])
        go_wp2_with fail
        go_round
        case rel => exact ⟨k + 1, by omega, by go_num, by rw [LS2.out, LO2.out]; congr 1; omega⟩
        case measure => simp [intOf]; omega
      · have hd : decide (1 < kx) = false := decide_eq_false h1
        have LO2 := hid (show (layO x.o).length = 1 by rw [LO.out, if_pos (by omega)])
        go_wp2_with fail
        go_round
        case rel => exact ⟨k + 1, by omega, by go_num, by rw [LS2.out, LO2.out]; go_num⟩
        case measure => simp [intOf]; omega
    · have hkl : k = hs.length := by omega
      subst hkl
      rw [List.take_length]
      generalize hN : (lay (hs.map HOpt.o)).length = n
      have HN := hid hN
      clear hN
      by_cases hnl : n < l.length
      · have hd : decide ((n : Int) < (l.length : Int)) = true := by simp; omega
        go_wp2_with fail
        go_ret
        refine ⟨?_, rfl⟩
        rw [HN.out, decide_eq_true hnl]
        rfl
      · have hd : decide ((n : Int) < (l.length : Int)) = false := by simp; omega
        go_wp2_with fail
        go_ret
        refine ⟨?_, rfl⟩
        rw [HN.out, decide_eq_false hnl]
        rfl

/-! ### the plain law -/
theorem pieces_end {la lc : List Int} {os : List Opt} {j : Nat} (ha : la = lay os ++ List.replicate (j + 1) 0) (hok : ∀ o ∈ os, okO o) : parseL (la ++ lc) = if zerosB lc then some os else none := by
  rw [ha, List.append_assoc, parse_lay' hok, parse_zeros_app]
  split <;> simp
theorem pieces_more {la lc : List Int} {os : List Opt} (ha : la = lay os) (hok : ∀ o ∈ os, okO o) : parseL (la ++ lc) = (parseL lc).map (os ++ ·) := by
  rw [ha, parse_lay' hok]
def ZRel2 (w0 : World) (l : List Int) (z t : Value) (wr : World) : Prop := ∃ k : Nat, k ≤ l.length ∧ t = .int .i64 k ∧ z = .bool (zerosB (l.take k)) ∧ w0 = wr
theorem ocells_one {hs : List HOpt} (h : ∀ x ∈ hs, x.v.oneCell' = true) : ∀ u ∈ ocells hs, u.oneCell' = true := by
  induction hs with
  | nil => intro u hu; simp [ocells] at hu
  | cons x hs ih =>
    intro u hu
    simp only [ocells, List.mem_cons] at hu
    rcases hu with rfl | rfl | hu
    · rfl
    · exact h x (by simp)
    · exact ih (fun y hy => h y (by simp [hy])) u hu
theorem OwnO.one {base : Nat} {w : World} {v : Value} {hs : List HOpt} (h : OwnO base w v hs) : ∀ u ∈ ocells hs, u.oneCell' = true := by
  obtain ⟨ρ, _, _, h3⟩ := h
  refine ocells_one fun x hx => ?_
  obtain ⟨j, hj⟩ := List.mem_iff_getElem?.1 hx
  obtain ⟨a, c, e, _⟩ := own_shape (h3 j x hj).1
  rw [e]; rfl
set_option maxHeartbeats 3200000 in
set_option maxRecDepth 20000 in
theorem optsPieces_any (av bv : Value) (la lc : List Int) (w : World) (ha : Rb w av la) (hb : Rb w bv lc) (hT : Tab w) (hla : la.length ≤ 1048576) (hlc : lc.length ≤ 1048576) : Calls Tryd.prog 7 #[av, bv] w (BPost w true) := by
  obtain ⟨i0, hi, hz0, hz1, hz2⟩ := info_parts Tryd.info5
  obtain ⟨i2, hi2, hz20, hz21, hz22⟩ := info_parts info_opt
  have HA := hid ha
  have HB := hid hb
  have HT := hid hT
  obtain ⟨aa, capa, rfl, hca, hma, _⟩ := ha.open
  obtain ⟨ab, capb, rfl, hcb, hmb, hzb⟩ := hb.open
  unfold maxLen at hma hmb
  have HZ := hid hzb
  clear ha hb hT hzb
  go_enter Tryd.func7, Tryd.ntmps7
  go_wp2_with fail
  refine (parse_any _ la _ HA.out HT.out (by omega)).mono ?_
  intro en w1 hP
  obtain ⟨v1, hs1, rfl, he1, ho1, hb1⟩ := hP.all
  have E1 := hid he1
  have O1 := hid ho1
  have B1 := hid hb1
  clear hP he1 ho1 hb1
  go_wp2_with fail
  refine (parse_any _ lc _ (HB.out.below B1.out) (HT.out.below B1.out) (by omega)).mono ?_
  intro en w2 hP
  obtain ⟨v2, hs2, rfl, he2, ho2, hb2⟩ := hP.all
  have E2 := hid he2
  have O2 := hid ho2
  have O12 := hid (O1.out.below hb2)
  have B2 := hid (B1.out.trans (hb2.mono B1.out.size))
  clear hP he2 ho2 hb2 O1
  have hs2s := B2.out.size
  go_wp2_with (first | (at_builtin; refine wpList_append_bytes rfl _ _ 22 rfl w2.heap.size 5 i0 _ Tryd.underlying22 hi hz0 hz1 hz2 rfl (.slice none 0 0) 0 [] rfl (World.ownsRow_nil _ _ _ _) _ la rfl (HA.out.below B2.out) (by omega) (Nat.le_refl _) ?_; intro a3 c3 w3 ho3 hg3 hat3; have B23 : Hid (Below w2.heap.size w2 w3) := hid ((Below.refl _ _).grown hg3 (Nat.le_refl _) fun g hg => by simp [Value.ownBlock] at hg); have O3 := hid (show w3.ownsRow w2.heap.size 5 1 (.slice a3 la.length c3) la.length (bts la) by have := ho3; rw [Nat.zero_add] at this; exact this); clear ho3 hg3 hat3) | (at_builtin; refine wpList_append_bytes rfl _ _ 22 rfl w2.heap.size 5 i0 _ Tryd.underlying22 hi hz0 hz1 hz2 rfl (.slice a3 la.length c3) _ _ rfl O3.out _ lc rfl (HB.out.below (B2.out.trans (B23.out.mono hs2s))) (by omega) (by have := B23.out.size; omega) ?_; intro a4 c4 w4 ho4 hg4 hat4))
  have hs23 := B23.out.size
  have B24 : Hid (Below w2.heap.size w2 w4) := hid (B23.out.grown hg4 hs23 fun g hg => (O3.out.lt g hg).1)
  have RW := hid (show Rb w4 (.slice a4 (la.length + lc.length) c4) (la ++ lc) from by
    have := ho4
    rw [← bts_append, ← List.length_append] at this
    have r := Rb.of_own (HA.out.byt.append HB.out.byt) this
    rwa [List.length_append] at r)
  have O14 := hid (O12.out.below B24.out)
  have O24 := hid (O2.out.below B24.out)
  have B4 := hid (B2.out.trans (B24.out.mono hs2s))
  clear ho4 hg4 hat4 O12 O2 B23 B24 O3 hs23 hs2s
  obtain ⟨W4, hW4⟩ : ∃ W : List Int, W = la ++ lc := ⟨_, rfl⟩
  have HW4 := hid hW4
  have hWl : W4.length = la.length + lc.length := by rw [hW4]; simp
  have hWl2 : W4.length ≤ 2097152 := by omega
  rw [← hWl] at RW
  rw [← hW4] at RW
  rw [← hWl]
  clear hW4 hWl
  go_wp2_with fail
  refine (parse_any _ W4 _ RW.out (HT.out.below B4.out) (by omega)).mono ?_
  intro en w5 hP
  obtain ⟨v5, hs5, rfl, he5, ho5, hb5⟩ := hP.all
  have E5 := hid he5
  have O5 := hid ho5
  have O15 := hid (O14.out.below hb5)
  have O25 := hid (O24.out.below hb5)
  have B5 := hid (B4.out.trans (hb5.mono B4.out.size))
  clear hP he5 ho5 hb5 O14 O24 RW
  go_wp2_with fail
  refine (known_any _ (HT.out.below B5.out)).mono ?_
  rintro en w6 ⟨rfl, hb6⟩
  have O16 := hid (O15.out.below hb6)
  have O26 := hid (O25.out.below hb6)
  have O56 := hid (O5.out.below hb6)
  have B6 := hid (B5.out.trans (hb6.mono B5.out.size))
  clear hb6 O15 O25 O5
  cases hpa : parseL la with
  | none =>
    have hpe : parE la = 40 := by unfold parE; rw [hpa]; rfl
    have hs0 : hs1 = [] := by have := E1.out; unfold optsOf at this; rw [hpa] at this; simpa using this
    subst hs0
    obtain ⟨a1, c1, rfl, _⟩ := O16.out.ropt
    rw [hpe]
    clear hpa hpe
    go_wp2_with fail
    go_ret
    exact ⟨rfl, B6.out⟩
  | some os =>
    have hpe : parE la = 0 := by unfold parE; rw [hpa]; rfl
    rw [hpe]
    have e1 : hs1.map HOpt.o = os := by have := E1.out; unfold optsOf at this; rw [hpa] at this; simpa using this
    have hok := parse_ok HA.out.byt hpa
    obtain ⟨j, hj⟩ := parse_form HA.out.byt hpa
    have hlen := form_len hj
    have EO := hid e1
    have OK := hid hok
    have HJ := hid hj
    have HLn := hid hlen
    have hlo : (lay (hs1.map HOpt.o)).length ≤ 1048576 := by rw [e1]; omega
    clear hpa hpe e1 hok hj hlen
    go_wp2_with fail
    refine (ended_any _ _ la hs1 _ (HA.out.below B6.out) O16.out.ropt (by rw [EO.out]; exact OK.out) (by omega)).mono ?_
    rintro en w7 ⟨rfl, rfl⟩
    rw [EO.out]
    clear hlo
    by_cases hj0 : j = 0
    · subst hj0
      have hd : decide ((lay os).length < la.length) = false := by have := HLn.out; simp; omega
      rw [hd]
      have PM := hid (show parseL W4 = (parseL lc).map (os ++ ·) by rw [HW4.out]; exact pieces_more (by have := HJ.out; simpa using this) OK.out)
      clear hd
      cases hpc : parseL lc with
      | none =>
        have p1 : parE lc = 40 := by unfold parE; rw [hpc]; rfl
        have p2 : parE W4 = 40 := by unfold parE; rw [PM.out, hpc]; rfl
        rw [p1, p2]
        clear hpc p1 p2
        go_wp2_with fail
        go_ret
        exact ⟨rfl, B6.out⟩
      | some ms =>
        have p1 : parE lc = 0 := by unfold parE; rw [hpc]; rfl
        have p2 : parE W4 = 0 := by unfold parE; rw [PM.out, hpc]; rfl
        have q2 : hs2.map HOpt.o = ms := by have := E2.out; unfold optsOf at this; rw [hpc] at this; simpa using this
        have q5 : hs5.map HOpt.o = os ++ ms := by have := E5.out; unfold optsOf at this; rw [PM.out, hpc] at this; simpa using this
        have EQ := hid (show decide (hs5.map HOpt.o = (hs1 ++ hs2).map HOpt.o) = true from decide_eq_true (by rw [q5, List.map_append, EO.out, q2]))
        have hn1 : hs1.length ≤ 1048576 := by
          have h1 := parse_count (l := la) (os := os) (by rw [HJ.out]; have := parse_lay' OK.out (List.replicate 0 0); simpa [parse_nil] using this)
          have h2 := congrArg List.length EO.out
          simp at h2
          omega
        have hn2 : hs2.length ≤ 1048576 := by
          have h1 := parse_count hpc
          have h2 := congrArg List.length q2
          simp at h2
          omega
        rw [p1, p2]
        have R5 := hid O56.out.ropt
        have K1 := hid O16.out.one
        have K2 := hid O26.out.one
        obtain ⟨ρ1, hr1, _, hx1⟩ := O16.out
        obtain ⟨ρ2, hr2, _, hx2⟩ := O26.out
        have Q1 := hid hr1
        have Q2 := hid hr2
        have X1 := hid (O16.out.ropt)
        have X2 := hid (O26.out.ropt)
        clear hpc p1 p2 q2 q5 hr1 hr2 hx1 hx2
        have hs6 : w6.heap.size ≤ w6.heap.size := Nat.le_refl _
        go_wp2_with (first | (at_builtin; refine wpList_append_row rfl _ _ 23 rfl w6.heap.size _ 38 i2 _ 2 32 Tryd.underlying23 hi2 hz20 hz21 hz22 rfl (by decide) (.slice none 0 0) 0 [] rfl (World.ownsRow_nil _ _ _ _) _ hs1.length _ rfl Q1.out K1.out (by unfold maxLen; omega) (by omega) (Nat.le_refl _) ?_; intro a7 c7 w7 ho7 hg7 hat7; have B67 : Hid (Below w6.heap.size w6 w7) := hid ((Below.refl _ _).grown hg7 (Nat.le_refl _) fun g hg => by simp [Value.ownBlock] at hg); have O7 := hid (show w7.ownsRow w6.heap.size 38 2 (.slice a7 hs1.length c7) hs1.length (ocells hs1) by have := ho7; rw [Nat.zero_add] at this; exact this); clear ho7 hg7 hat7) | (at_builtin; refine wpList_append_row rfl _ _ 23 rfl w6.heap.size _ 38 i2 _ 2 32 Tryd.underlying23 hi2 hz20 hz21 hz22 rfl (by decide) (.slice a7 hs1.length c7) _ _ rfl O7.out _ hs2.length _ rfl (own_below Q2.out B67.out) K2.out (by unfold maxLen; omega) (by omega) B67.out.size ?_; intro a8 c8 w8 ho8 hg8 hat8))
        have B68 : Hid (Below w6.heap.size w6 w8) := hid (B67.out.grown hg8 B67.out.size fun g hg => (O7.out.lt g hg).1)
        have R8 := hid (show Ropt w8 (.slice a8 (hs1.length + hs2.length) c8) (hs1 ++ hs2) from Ropt.of_own (by rw [ocells_append]; exact ho8) fun x hx => by
          rcases List.mem_append.1 hx with h | h
          · obtain ⟨j', hj'⟩ := List.mem_iff_getElem?.1 h
            obtain ⟨_, _, _, _, _, h3⟩ := X1.out.below B68.out
            obtain ⟨_, _, _, _, _, r, q⟩ := h3 j' x hj'
            exact ⟨r, q⟩
          · obtain ⟨j', hj'⟩ := List.mem_iff_getElem?.1 h
            obtain ⟨_, _, _, _, _, h3⟩ := X2.out.below B68.out
            obtain ⟨_, _, _, _, _, r, q⟩ := h3 j' x hj'
            exact ⟨r, q⟩)
        have B8 := hid (B6.out.trans (B68.out.mono B6.out.size))
        clear ho8 hg8 hat8 B67 O7
        refine (sameOpts_any _ _ _ _ _ (R5.out.below B68.out) R8.out).mono ?_
        rintro en w9 ⟨rfl, hd⟩
        rw [EQ.out]
        have B9 := hid (B8.out.trans (hd.below _))
        clear hd
        go_wp2_with fail
        go_ret
        exact ⟨rfl, B9.out⟩
    · obtain ⟨i, rfl⟩ : ∃ i, j = i + 1 := ⟨j - 1, by omega⟩
      have hd : decide ((lay os).length < la.length) = true := by have := HLn.out; simp; omega
      rw [hd]
      have PE := hid (show parseL W4 = if zerosB lc then some os else none by rw [HW4.out]; exact pieces_end HJ.out OK.out)
      clear hd hj0
      go_wp2_with fail
      go_loop [12, 13] (fun z t => ∃ k : Nat, k ≤ lc.length ∧ t = .int .i64 k ∧ z = .bool (zerosB (lc.take k))) (fun _ t => lc.length - (intOf t).toNat)
      case atStart => exact ⟨0, Nat.zero_le _, rfl, by simp [zerosB]⟩
      case round =>
        obtain ⟨k, hk, rfl, rfl⟩ := hrel
        by_cases hlt : k < lc.length
        · rcases HZ.out with h0 | ⟨b, off, rfl, hcell⟩
          · omega
          have hck := (B6.out.cell (p := ⟨b, off + k, none⟩) (World.block_lt_of_cell? _ _ (hcell k hlt))).trans (hcell k hlt)
          have hzt := hid (zerosB_take hlt)
          generalize hzz : zerosB (lc.take k) = zz at *
          generalize gt lc k = x at *
          clear hcell hzz
          cases zz
          · go_wp2_with fail
            go_round
            case rel => exact ⟨k + 1, by omega, by go_num, by rw [hzt.out]; rfl⟩
            case measure => simp [intOf]; omega
          · by_cases hx0 : x = 0
            · subst hx0
              go_wp2_with fail
              go_round
              case rel => exact ⟨k + 1, by omega, by go_num, by rw [hzt.out]; rfl⟩
              case measure => simp [intOf]; omega
            · have hd : (x == 0) = false := by simp [hx0]
              have hd2 := hid (decide_eq_false hx0)
              clear hx0
              go_wp2_with fail
              go_round
              case rel => exact ⟨k + 1, by omega, by go_num, by rw [hzt.out, hd2.out]; rfl⟩
              case measure => simp [intOf]; omega
        · have hkl : k = lc.length := by omega
          subst hkl
          rw [List.take_length]
          cases hzz : zerosB lc with
          | true =>
            have p2 : parE W4 = 0 := by unfold parE; rw [PE.out, hzz]; rfl
            have q5 : hs5.map HOpt.o = os := by have := E5.out; unfold optsOf at this; rw [PE.out, hzz] at this; simpa using this
            have EQ := hid (opts_eq q5 EO.out)
            rw [p2]
            clear hzz p2 q5
            go_wp2_with fail
            refine (sameOpts_any _ _ _ _ _ O56.out.ropt O16.out.ropt).mono ?_
            rintro en w9 ⟨rfl, hd⟩
            rw [EQ.out]
            have B9 := hid (B6.out.trans (hd.below _))
            clear hd
            go_wp2_with fail
            go_ret
            exact ⟨rfl, B9.out⟩
          | false =>
            have p2 : parE W4 = 40 := by unfold parE; rw [PE.out, hzz]; rfl
            rw [p2]
            clear hzz p2
            go_wp2_with fail
            go_ret
            exact ⟨rfl, B6.out⟩

end Go.Proofs.YtebfbpfikbjjlaaDoor
