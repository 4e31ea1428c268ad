/-
  OptsCarries: the walk of the statement.
-/
import Derived.Test.YtebfbpfikbjjlaaDoorL04B
namespace Go.Proofs.YtebfbpfikbjjlaaDoor
open Go.RowKit

set_option maxHeartbeats 3200000 in
set_option maxRecDepth 20000 in
theorem optsCarries_any (v bv : Value) (gs : List HOpt) (lb : List Int) (w : World) (h : Ropt w v gs) (hb : Rb w bv lb) (hT : Tab w) : Calls Tryd.prog 8 #[v, bv] w (BPost w true) := by
  obtain ⟨i2, hi2, hz20, hz21, hz22⟩ := info_parts info_opt
  have H := hid h
  have HT := hid hT
  have HB := hid hb
  obtain ⟨ab, capb, rfl, hcb, hmb, _⟩ := hb.open
  unfold maxLen at hmb
  have CLB := hid (carry_law hb.byt)
  have BYX := hid (carryL_byt hb.byt)
  clear h hT hb
  go_enter Tryd.func8, Tryd.ntmps8
  go_wp2_with fail
  refine (fitting_any _ gs _ H.out).mono ?_
  rintro en w1 ⟨v1, hs, rfl, ho1, hb1, hft⟩
  have R1 := hid ho1.ropt
  have B1 := hid hb1
  have BY := hid (buildB_byt (ropt_byt ho1.ropt))
  have hE := hid (fits_build hft)
  have BYD := hid (pad_byt (lay_byt (os := (hs.map HOpt.o).filter highB) fun o ho => ⟨hft.1 o (List.mem_filter.1 ho).1, ropt_byt ho1.ropt o (List.mem_filter.1 ho).1⟩))
  have CP := hid (carry_pad hft.1 hft.2)
  have HP := hid (parse_build (filter_good hft.1))
  have hcnt := lay_count (hs.map HOpt.o)
  have hl40 := hft.2
  have hn : hs.length ≤ 40 := by simp only [List.length_map] at hcnt; omega
  have HDL := hid (show (pad (lay ((hs.map HOpt.o).filter highB))).length ≤ 40 from pad_le (Nat.le_trans (lay_filter _) hft.2) (by decide))
  clear ho1 hb1 hft hcnt hl40
  go_wp2_with fail
  refine (build_any _ hs _ R1.out (HT.out.below B1.out)).mono ?_
  rintro en w2 ⟨v2, rfl, ho2, hb2⟩
  have B2 := hid (B1.out.trans (hb2.mono B1.out.size))
  have R12 := hid (R1.out.below hb2)
  have RB := Rb.of_own BY.out ho2
  rw [hE.out.1]
  rw [hE.out.2] at RB
  have CL := hid (carry_law RB.byt)
  rw [CP.out] at CL
  generalize pad (lay (hs.map HOpt.o)) = pl at *
  generalize pad (lay ((hs.map HOpt.o).filter highB)) = dl at *
  have hdl40 := HDL.out
  have hdle := CL.out.2.1
  obtain ⟨a2, c2, rfl, hcc, hcm, _⟩ := RB.open
  unfold maxLen at hcm
  have RB := hid RB
  clear ho2 hb2 BY hE R1
  go_wp2_with fail
  refine (carry_any _ pl _ RB.out (HT.out.below B2.out)).mono ?_
  rintro en w3 ⟨v3, rfl, ho3, hb3⟩
  rw [CP.out] at ho3
  have RD := Rb.of_own BYD.out ho3
  obtain ⟨a3, c3, rfl, hcc3, hcm3, _⟩ := RD.open
  unfold maxLen at hcm3
  have RD := hid RD
  have R13 := hid (R12.out.below hb3)
  have B3 := hid (B2.out.trans (hb3.mono B2.out.size))
  clear ho3 hb3 R12 RB
  go_wp2_with fail
  refine (parse_any _ dl _ RD.out (HT.out.below B3.out) (by omega)).mono ?_
  rintro en w4 ⟨hb4, _, hs4⟩
  obtain ⟨v4, hs', rfl, he4, ho4⟩ := hs4 _ HP.out
  have EQ := hid (he4.trans (filter_o hs).symm)
  have RM := hid ho4.ropt
  have R14 := hid (R13.out.below hb4)
  have RD4 := hid (RD.out.below hb4)
  have B4 := hid (B3.out.trans (hb4.mono B3.out.size))
  clear hs4 he4 ho4 hb4 R13 RD
  obtain ⟨a, cap, rfl, hc, hm, _⟩ := R14.out
  unfold maxLen at hm
  go_wp2_with fail
  go_loopw [11, 12] (fun cv t wr => RCRel w4 hs cv t wr) (fun _ t _ => hs.length - (intOf t).toNat)
  case atStart => exact ⟨0, Nat.zero_le _, rfl, World.ownsRow_nil _ _ _ _, Below.refl _ _⟩
  case round =>
    obtain ⟨k, hk, rfl, hR, hB⟩ := hrel
    have R := hid hR
    have B := hid hB
    have hBs := hB.size
    clear hR hB
    by_cases hlt : k < hs.length
    · obtain ⟨x, hx⟩ : ∃ x, hs[k]? = some x := ⟨hs[k], List.getElem?_eq_getElem hlt⟩
      obtain ⟨b, off, av, cv, rfl, hve, c0, c1, hrb, _, hkb⟩ := ropt_at (R14.out.below B.out) hx
      have TS := hid (take_filter_snoc hx)
      have hfl := List.length_filter_le hiH (hs.take k)
      have htl : (hs.take k).length ≤ k := List.length_take_le _ _
      generalize hF : (hs.take k).filter hiH = F at *
      clear hx hrb hF
      by_cases hh : 128 ≤ x.k
      · have hd : decide (128 ≤ x.k) = true := decide_eq_true hh
        have TS2 := hid (show (hs.take (k + 1)).filter hiH = F ++ [x] by rw [TS.out]; unfold hiH; rw [hd]; rfl)
        have HX := hid (show ocells [x] = [.int .i64 x.k, .slice av x.l.length cv] by simp [ocells, hve])
        clear TS hve
        generalize x.k = kx at *
        generalize x.l = lx at *
        go_wp2_with (at_builtin; go_loud (refine wpList_append_kept rfl _ _ 23 rfl w4.heap.size 38 i2 _ 2 32 Tryd.underlying23 hi2 hz20 hz21 hz22 rfl (by decide) u11 F.length _ rfl (R.out.alloc _) ⟨wr.heap.size, 0, none⟩ 1 1 (by decide) [.int .i64 kx, .slice av lx.length cv] rfl rfl (new_cells (heap_alloc_new wr _)) (by simp [Value.oneCell']) (by unfold maxLen; omega) (by omega) (by simp; omega) ?_); intro g5 c5 w5 ho hat)
        have S := hid (show RCRel w4 hs (.slice (some ⟨g5, 0, none⟩) (F.length + 1) c5) (.int .i64 ((k : Int) + 1)) w5 from by
          refine ⟨k + 1, by omega, by go_num, ?_, ?_⟩
          · rw [TS2.out, List.length_append, ocells_append, HX.out]
            exact ho
          · rcases hat with ⟨e, hg⟩ | ⟨_, hb⟩
            · exact (B.out.alloc hBs _).grown hg (by simp; omega) fun g' hg' => by obtain rfl := Option.some.inj hg'; exact (R.out.lt _ e).1
            · exact (B.out.alloc hBs _).trans (hb.mono (by simp; omega)))
        clear ho hat
        go_roundw
        case rel => exact S.out
        case measure => simp [intOf]; omega
      · have hd : decide (128 ≤ x.k) = false := decide_eq_false hh
        have TS2 := hid (show (hs.take (k + 1)).filter hiH = F by rw [TS.out]; unfold hiH; rw [hd]; simp)
        clear TS hve
        generalize x.k = kx at *
        generalize x.l = lx at *
        go_wp2_with fail
        go_roundw
        case rel => exact ⟨k + 1, by omega, by go_num, by rw [TS2.out]; exact R.out, B.out⟩
        case measure => simp [intOf]; omega
    · have hkl : k = hs.length := by omega
      subst hkl
      have RW := hid (show Ropt wr u11 (hs.filter hiH) from Ropt.of_own (by have := R.out; rw [List.take_length] at this; exact this) fun x hx => by
        obtain ⟨j, hj⟩ := List.mem_iff_getElem?.1 (List.mem_filter.1 hx).1
        obtain ⟨_, _, _, _, _, h3⟩ := R14.out.below B.out
        obtain ⟨_, _, _, _, _, r, q⟩ := h3 j x hj
        exact ⟨r, q⟩)
      have B5 := hid (B4.out.trans (B.out.mono B4.out.size))
      have RM5 := hid (RM.out.below B.out)
      have RD5 := hid (RD4.out.below B.out)
      clear R B RM RD4
      go_wp2_with fail
      refine (known_any _ (HT.out.below B5.out)).mono ?_
      rintro en w6 ⟨rfl, hb6⟩
      have RW6 := hid (RW.out.below hb6)
      have RM6 := hid (RM5.out.below hb6)
      have RD6 := hid (RD5.out.below hb6)
      have B6 := hid (B5.out.trans (hb6.mono B5.out.size))
      clear hb6 RW RM5 RD5
      go_wp2_with fail
      refine (sameOpts_any _ _ _ _ _ RM6.out RW6.out).mono ?_
      rintro en w7 ⟨rfl, hd⟩
      rw [decide_eq_true EQ.out]
      have RD7 := hid (RD6.out.below (hd.below _))
      have B7 := hid (B6.out.trans (hd.below _))
      clear hd RW6 RM6 RD6
      go_wp2_with fail
      refine (valid_any _ dl _ RD7.out (HT.out.below B7.out)).mono ?_
      rintro en w8 ⟨rfl, hb8⟩
      rw [CL.out.1]
      have RD8 := hid (RD7.out.below hb8)
      have B8 := hid (B7.out.trans (hb8.mono B7.out.size))
      have hdd : decide ((pl.length : Int) < (dl.length : Int)) = false := by simp; omega
      have hdd2 : decide (pl.length < dl.length) = false := by simp; omega
      clear hb8 RD7
      go_wp2_with fail
      refine (carry_any _ dl _ RD8.out (HT.out.below B8.out)).mono ?_
      rintro en w9 ⟨v9, rfl, ho9, hb9⟩
      rw [CL.out.2.2] at ho9
      have RE := hid (Rb.of_own BYD.out ho9)
      have RD9 := hid (RD8.out.below hb9)
      have B9 := hid (B8.out.trans (hb9.mono B8.out.size))
      clear ho9 hb9 RD8
      go_wp2_with fail
      refine (same_any _ _ _ _ _ RE.out RD9.out).mono ?_
      rintro en w10 ⟨rfl, hd⟩
      rw [show decide (dl = dl) = true from decide_eq_true rfl]
      have B10 := hid (B9.out.trans (hd.below _))
      clear hd RE RD9
      go_wp2_with fail
      refine (carry_any _ lb _ (HB.out.below B10.out) (HT.out.below B10.out)).mono ?_
      rintro en w11 ⟨v11, rfl, ho11, hb11⟩
      have RX := Rb.of_own BYX.out ho11
      obtain ⟨ax, cx, rfl, hccx, hcmx, _⟩ := RX.open
      unfold maxLen at hcmx
      have RX := hid RX
      have hxl := CLB.out.2.1
      have B11 := hid (B10.out.trans (hb11.mono B10.out.size))
      have CLX := CLB.out
      generalize carryL lb = xl at *
      have CLX := hid CLX
      clear ho11 hb11 CLB
      go_wp2_with fail
      refine (valid_any _ xl _ RX.out (HT.out.below B11.out)).mono ?_
      rintro en w12 ⟨rfl, hb12⟩
      rw [CLX.out.1]
      have RX12 := hid (RX.out.below hb12)
      have B12 := hid (B11.out.trans (hb12.mono B11.out.size))
      have hde : decide ((xl.length : Int) ≤ (lb.length : Int)) = true := by simp; omega
      have hde2 : decide (xl.length ≤ lb.length) = true := by simp; omega
      clear hb12 RX
      go_wp2_with fail
      refine (carry_any _ xl _ RX12.out (HT.out.below B12.out)).mono ?_
      rintro en w13 ⟨v13, rfl, ho13, hb13⟩
      rw [CLX.out.2.2] at ho13
      have RE := hid (Rb.of_own BYX.out ho13)
      have RX13 := hid (RX12.out.below hb13)
      have B13 := hid (B12.out.trans (hb13.mono B12.out.size))
      clear ho13 hb13 RX12
      go_wp2_with fail
      refine (same_any _ _ _ _ _ RE.out RX13.out).mono ?_
      rintro en w14 ⟨rfl, hd⟩
      rw [show decide (xl = xl) = true from decide_eq_true rfl]
      have B14 := hid (B13.out.trans (hd.below _))
      clear hd
      go_wp2_with fail
      go_ret
      exact ⟨rfl, B14.out⟩

end Go.Proofs.YtebfbpfikbjjlaaDoor
