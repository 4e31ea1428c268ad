/-
  package udp: Build, the walk.
-/
import Derived.Test.YtpiafmnfneefiaaUdpC
namespace Go.Proofs.Ytpiafmnfneefiaa
open Go.RowKit

def DgPost (e : Int) (l : List Int) (w : World) (en : Ending) (w' : World) : Prop :=
  ∃ v, en = .returned (.tuple #[v, .int .i64 e]) ∧ w'.ownsRow w.heap.size 5 1 v l.length (bts l) ∧ Below w.heap.size w w'
theorem DgPost.err {e : Int} {l : List Int} {w w' : World} (hl : l = []) (hb : Below w.heap.size w w') : DgPost e l w (.returned (.tuple #[.slice none 0 0, .int .i64 e])) w' := by
  subst hl; exact ⟨_, rfl, World.ownsRow_nil _ _ _ _, hb⟩
theorem dgR_err {V : Int} {bs : List Int} {V2 : Int} {bs2 : List Int} {sp dp : Int} {ns : Bool} {d : List Int} (h : dgE V bs V2 bs2 sp dp ns d ≠ 0) : dgR V bs V2 bs2 sp dp ns d = [] := by unfold dgR; rw [if_neg h]
theorem u16_xor (p : Int) (h0 : 0 ≤ p) (h1 : p ≤ 65535) : bits .xor .u16 IntKind.u16.max p = 65535 - p := by
  have e : BitVec.ofInt 16 IntKind.u16.max = BitVec.allOnes 16 := by decide
  show IntKind.u16.wrap ((BitVec.ofInt 16 IntKind.u16.max ^^^ BitVec.ofInt 16 p).toNat : Nat) = _
  rw [e, BitVec.allOnes_xor, BitVec.toNat_not, BitVec.toNat_ofInt, IntKind.wrap_u16]
  omega
theorem u16_xor' (p : Int) (h0 : 0 ≤ p) (h1 : p ≤ 65535) : bits .xor .u16 (if IntKind.u16.signed = true then -1 else IntKind.u16.max) p = 65535 - p := by
  rw [if_neg (by decide)]; exact u16_xor p h0 h1
theorem wPut16_six (base wb : Nat) (L : List Int) (lim v : Int) (w : World) (h : WrB base w wb L lim) (hl : 8 ≤ L.length) (hv0 : 0 ≤ v) (hv1 : v ≤ 65535) :
    Calls Try.prog 36 #[.pointer (some ⟨wb, 0, none⟩), .int .i64 6, .int .u16 v] w (WPutPost base wb ((L.set 6 (v / 256)).set 7 (v % 256)) lim w) := wPut16_own base wb L lim 6 v w h (by decide) (by omega) hv0 hv1
set_option maxHeartbeats 6400000 in
set_option maxRecDepth 20000 in
theorem build_any (V : Int) (bs : List Int) (V2 : Int) (bs2 : List Int) (sp dp : Int) (ns : Bool) (dv : Value) (d : List Int) (w : World) (h : IsA V bs) (h2 : IsA V2 bs2) (hd : Rb w dv d) :
    Calls Try.prog 13 #[addrV V bs, addrV V2 bs2, .agg #[.int .i64 sp, .int .i64 dp, .bool ns, dv]] w (DgPost (dgE V bs V2 bs2 sp dp ns d) (dgR V bs V2 bs2 sp dp ns d) w) := by
  have H := hid h
  have H2 := hid h2
  have HD := hid hd
  obtain ⟨ad, cd, rfl, hcd, hmd, _⟩ := hd.open
  unfold maxLen at hmd
  obtain ⟨a1, a2, a3, bb⟩ := dg_boxes w V bs V2 bs2 #[.int .i64 sp, .int .i64 dp, .bool ns, .slice ad d.length cd] 35
  have A1 := hid a1
  have A2 := hid a2
  have A3 := hid a3
  have BB := hid bb
  have P := fun W => pair_any V bs V2 bs2 W h h2
  have WH := fun bv l W (hp : pairA V bs V2 bs2 = true) (hb : Rb W bv l) (hl : l.length ≤ 65535) => whole_any V bs V2 bs2 bv l W h h2 hp hb hl
  have EE : Hid (dgE V bs V2 bs2 sp dp ns d = if (pairA V bs V2 bs2 && portB sp && portB dp && !(ns && decide (V = 6))) = true then (if mostV V < d.length then 3 else 0) else 1) := hid rfl
  have RE : Hid (dgR V bs V2 bs2 sp dp ns d = if dgE V bs V2 bs2 sp dp ns d = 0 then dgL V bs bs2 sp dp ns d else []) := hid rfl
  generalize dgE V bs V2 bs2 sp dp ns d = e at *
  generalize dgR V bs V2 bs2 sp dp ns d = r at *
  generalize hvp : pairA V bs V2 bs2 = vp at *
  have P := hid P
  have WH := hid WH
  clear a1 a2 a3 bb h h2 hd hvp
  unfold addrV at *
  go_enter Try.func13, Try.ntmps13
  go_upto_region 1 with fail
  generalize ((w.alloc (.cells (addrC V bs) 24)).alloc (.cells (addrC V2 bs2) 24)).alloc (.cells #[.int .i64 sp, .int .i64 dp, .bool ns, .slice ad d.length cd] 35) = w1 at *
  go_wp2_with (first | (refine wpList_load_addr rfl _ rfl _ _ _ rfl A1.out H.out.len ?_) | (refine wpList_load_addr rfl _ rfl _ _ _ rfl A2.out H2.out.len ?_))
  refine (P.out _).mono ?_
  rintro en w2 ⟨rfl, hb⟩
  have BB2 := hid (BB.out.trans (hb.mono BB.out.size))
  have A12 := hid (A1.out.below hb)
  have A22 := hid (A2.out.below hb)
  have A32 := hid (blk_below A3.out hb)
  clear hb A1 A2 A3 BB
  have c1 := A12.out.v
  obtain ⟨d0, d1, d2, d3⟩ := cells4 A32.out
  cases vp
  · have F := hid (show DgPost e r w (.returned (.tuple #[.slice none 0 0, .int .i64 1])) w2 by
      have he : e = 1 := by rw [EE.out]; simp
      have hr : r = [] := by rw [RE.out, if_neg (by omega)]
      rw [he]; exact DgPost.err hr BB2.out)
    go_wp2_with fail
    go_ret2
    exact F.out
  · have PS := hid (port_any sp w2)
    have PSD : Hid (portB sp = (decide (0 ≤ sp) && decide (sp ≤ 65535))) := hid rfl
    rw [← PSD.out] at PS
    have PD := port_any dp w2
    rw [show (decide (0 ≤ dp) && decide (dp ≤ 65535)) = portB dp from rfl] at PD
    generalize hps : portB sp = ps at *
    generalize hpd : portB dp = pd at *
    have PD := hid PD
    have HPS := hid hps
    have HPD := hid hpd
    clear hps hpd PSD
    cases ps
    · have F := hid (show DgPost e r w (.returned (.tuple #[.slice none 0 0, .int .i64 1])) w2 by
        have he : e = 1 := by rw [EE.out]; simp
        have hr : r = [] := by rw [RE.out, if_neg (by omega)]
        rw [he]; exact DgPost.err hr BB2.out)
      go_wp2_with fail
      refine PS.out.mono ?_
      rintro en w3 ⟨rfl, rfl⟩
      go_wp2_with fail
      go_ret2
      exact F.out
    · cases pd
      · have F := hid (show DgPost e r w (.returned (.tuple #[.slice none 0 0, .int .i64 1])) w2 by
          have he : e = 1 := by rw [EE.out]; simp
          have hr : r = [] := by rw [RE.out, if_neg (by omega)]
          rw [he]; exact DgPost.err hr BB2.out)
        go_wp2_with fail
        refine PS.out.mono ?_
        rintro en w3 ⟨rfl, rfl⟩
        go_wp2_with fail
        refine PD.out.mono ?_
        rintro en w3 ⟨rfl, rfl⟩
        go_wp2_with fail
        go_ret2
        exact F.out
      · have hvn : (ns && decide (V = 6)) = true ∨ (ns && decide (V = 6)) = false := by cases (ns && decide (V = 6)) <;> simp
        rcases hvn with hvn | hvn
        · have F := hid (show DgPost e r w (.returned (.tuple #[.slice none 0 0, .int .i64 1])) w2 by
            have he : e = 1 := by rw [EE.out, hvn]; simp
            have hr : r = [] := by rw [RE.out, if_neg (by omega)]
            rw [he]; exact DgPost.err hr BB2.out)
          simp only [Bool.and_eq_true, decide_eq_true_eq] at hvn
          obtain ⟨rfl, rfl⟩ := hvn
          go_wp2_with fail
          refine PS.out.mono ?_
          rintro en w3 ⟨rfl, rfl⟩
          go_wp2_with fail
          refine PD.out.mono ?_
          rintro en w3 ⟨rfl, rfl⟩
          go_wp2_with fail
          go_ret2
          exact F.out
        · have EE2 := hid (show e = if mostV V < d.length then 3 else 0 by rw [EE.out, hvn]; simp)
          have hmv : mostV V ≤ 65527 := by unfold mostV; split <;> omega
          have M := fun W => most_any V W
          generalize hmm : mostV V = mv at *
          have M := hid M
          clear EE hmm
          have hns : ns = false ∨ (ns = true ∧ (V == 6) = false) := by
            cases ns
            · exact Or.inl rfl
            · right
              simp at hvn
              exact ⟨rfl, by simp [hvn]⟩
          clear hvn
          have sp0 := portB_parts HPS.out
          have dp0 := portB_parts HPD.out
          by_cases hlong : mv < d.length
          · have F := hid (show ∀ W, Below w.heap.size w W → DgPost e r w (.returned (.tuple #[.slice none 0 0, .int .i64 3])) W from fun W hW => by
              have he : e = 3 := by rw [EE2.out, if_pos hlong]
              have hr : r = [] := by rw [RE.out, if_neg (by omega)]
              rw [he]; exact DgPost.err hr hW)
            have hdl : decide (mv < (d.length : Int)) = true := decide_eq_true hlong
            rcases hns with rfl | ⟨rfl, hv6⟩
            all_goals
              go_wp2_with fail
              refine PS.out.mono ?_
              rintro en w3 ⟨rfl, rfl⟩
              go_wp2_with fail
              refine PD.out.mono ?_
              rintro en w3 ⟨rfl, rfl⟩
              go_wp2_with fail
              go_quiet ((go_at_call 30; exact quiet_any (M.out _)))
              go_wp2
              go_ret2
              exact F.out _ (BB2.out.trans ((Same.drewN _ _).below _))
          · have he := hid (show e = 0 by rw [EE2.out, if_neg hlong])
            have hr := hid (show r = dgL V bs bs2 sp dp ns d by rw [RE.out, if_pos he.out])
            have hdl : decide (mv < (d.length : Int)) = false := decide_eq_false hlong
            have hdl2 : d.length ≤ 65527 := by omega
            have hw8 : (8 + (d.length : Int)) ≤ 65535 := by omega
            have HSP := hid (dgB_byt sp0 dp0 HD.out.byt hdl2)
            have HLB := hid (fun n (hn : 0 ≤ n ∧ n ≤ 65535) => headL_byt (V := V) (proto := 17) (n := n) H.out.byt H2.out.byt (by omega) hn)
            have LB2 := hid (show (be 2 sp ++ be 2 dp ++ be 2 (8 + (d.length : Int)) ++ be 2 0 ++ d) = dgB sp dp d by
              rw [be2 sp0.1 sp0.2, be2 dp0.1 dp0.2, be2 (by omega) hw8, be2 (by omega) (by omega)]; simp [dgB])
            have W1 : IntKind.u16.wrap sp = sp := IntWalk.u16_in _ sp0
            have W2 : IntKind.u16.wrap dp = dp := IntWalk.u16_in _ dp0
            have W3 : IntKind.u16.wrap (8 + (d.length : Int)) = 8 + (d.length : Int) := IntWalk.u16_in _ (by omega)
            rcases hns with rfl | ⟨rfl, hv6⟩
            all_goals
              go_wp2_with fail
              refine PS.out.mono ?_
              rintro en w3 ⟨rfl, rfl⟩
              go_wp2_with fail
              refine PD.out.mono ?_
              rintro en w3 ⟨rfl, rfl⟩
              go_wp2_with fail
              go_quiet ((go_at_call 30; exact quiet_any (M.out _)))
              obtain ⟨w3, hw3⟩ : ∃ w3, w3 = w2.drewN nq := ⟨_, rfl⟩
              rw [← hw3]
              have S3 : Below w2.heap.size w2 w3 := by rw [hw3]; exact (Same.drewN _ _).below _
              have BB3 := hid (BB2.out.trans (S3.mono BB2.out.size))
              have A13 := hid (A12.out.below S3)
              have A23 := hid (A22.out.below S3)
              have A33 := hid (blk_below A32.out S3)
              have HD3 := hid (HD.out.below BB3.out)
              have DC := hid (fun W (hW : Below w3.heap.size w3 W) => cells4 (blk_below A33.out hW))
              have DL := hid (fun b (hb : (Value.slice ad d.length cd).ownBlock = some b) (hne : d ≠ []) => HD3.out.lt hne hb)
              obtain ⟨e0, e1, e2, e3⟩ := cells4 A33.out
              clear hw3 S3 d0 d1 d2 d3 c1 A12 A22 A32 BB2
              go_wp2_with fail
              refine (wnew_own (8 + (d.length : Int)) _ (by omega) (by omega)).mono ?_
              rintro en w4 ⟨wb, rfl, hW, hb⟩
              have WW := hid hW
              have BW := hid hb
              obtain ⟨f0, f1, f2, f3⟩ := DC.out _ hb
              clear hW hb e0 e1 e2 e3
              go_wp2_with fail
              refine (w16_own _ wb [] _ sp _ WW.out sp0.1 sp0.2 (by simp only [List.length_nil]; omega)).mono ?_
              rintro en w5 ⟨rfl, hW, hb⟩
              have W5 := hid hW
              have B5 := hid (BW.out.trans hb)
              obtain ⟨g0, g1, g2, g3⟩ := DC.out _ B5.out
              clear hW hb f0 f1 f2 f3 WW BW
              go_wp2_with fail
              refine (w16_own _ wb _ _ dp _ W5.out dp0.1 dp0.2 (by simp [be_length]; omega)).mono ?_
              rintro en w6 ⟨rfl, hW, hb⟩
              have W6 := hid hW
              have B6 := hid (B5.out.trans hb)
              obtain ⟨f0, f1, f2, f3⟩ := DC.out _ B6.out
              clear hW hb g0 g1 g2 g3 W5 B5
              go_wp2_with fail
              refine (w16_own _ wb _ _ (8 + (d.length : Int)) _ W6.out (by omega) (by omega) (by simp [be_length]; omega)).mono ?_
              rintro en w7 ⟨rfl, hW, hb⟩
              have W7 := hid hW
              have B7 := hid (B6.out.trans hb)
              obtain ⟨g0, g1, g2, g3⟩ := DC.out _ B7.out
              clear hW hb f0 f1 f2 f3 W6 B6
              go_wp2_with fail
              refine (w16_own _ wb _ _ 0 _ W7.out (by omega) (by omega) (by simp [be_length]; omega)).mono ?_
              rintro en w8 ⟨rfl, hW, hb⟩
              have W8 := hid hW
              have B8 := hid (B7.out.trans hb)
              obtain ⟨f0, f1, f2, f3⟩ := DC.out _ B8.out
              clear hW hb g0 g1 g2 g3 W7 B7
              go_wp2_with fail
              refine (wBytes_own _ wb _ d _ _ _ W8.out (HD3.out.below B8.out) (fun hne b hb => DL.out b hb hne) (by simp only [List.length_append, be_length, List.length_nil]; omega) (by omega)).mono ?_
              rintro en w9 ⟨rfl, hW, hb⟩
              rw [List.nil_append, LB2.out] at hW
              have W9 := hid hW
              have B9 := hid (B8.out.trans hb)
              obtain ⟨g0, g1, g2, g3⟩ := DC.out _ B9.out
              clear hW hb f0 f1 f2 f3 W8 B8
            · go_wp2_with fail
              refine (wOut_own _ wb _ _ _ W9.out).mono ?_
              rintro en w10 ⟨v10, rfl, ho, hb⟩
              have R10 := hid (Rb.of_own HSP.out ho)
              have W10 := hid (W9.out.below hb)
              have B10 := hid (B9.out.trans (hb.mono B9.out.size))
              have A110 := hid (A13.out.below B10.out)
              have A210 := hid (A23.out.below B10.out)
              have LBL := hid (dgB_len sp dp d)
              have R10' := hid (R10.out)
              clear ho hb W9 g0 g1 g2 g3
              have hbl : Byt (headL V bs bs2 17 (8 + (d.length : Int)) ++ dgB sp dp d) := (HLB.out _ (by omega)).append HSP.out
              have hpb := partL_bd hbl
              have WA := WH.out v10 (dgB sp dp d) w10 trivial R10.out (by rw [dgB_len]; omega)
              rw [show (((dgB sp dp d).length : Nat) : Int) = 8 + (d.length : Int) by rw [dgB_len]; omega] at WA
              have hr2 := hid (show r = ((dgB sp dp d).set 6 (dgS V bs bs2 sp dp d / 256)).set 7 (dgS V bs bs2 sp dp d % 256) by rw [hr.out]; unfold dgL; rw [if_neg (by decide)])
              have hsd : Hid (dgS V bs bs2 sp dp d = if 65535 - partL (headL V bs bs2 17 (8 + (d.length : Int)) ++ dgB sp dp d) = 0 then 65535 else 65535 - partL (headL V bs bs2 17 (8 + (d.length : Int)) ++ dgB sp dp d)) := hid rfl
              have hsb := dgS_bd hbl
              generalize partL (headL V bs bs2 17 (8 + (d.length : Int)) ++ dgB sp dp d) = p at *
              generalize dgS V bs bs2 sp dp d = sv at *
              have hx := u16_xor p hpb.1 hpb.2
              have hx2 := u16_xor' p hpb.1 hpb.2
              have WA := hid WA
              clear hbl
              go_wp2_with (first | (refine wpList_load_addr rfl _ rfl _ _ _ rfl A110.out H.out.len ?_) | (refine wpList_load_addr rfl _ rfl _ _ _ rfl A210.out H2.out.len ?_))
              refine WA.out.mono ?_
              rintro en w11 ⟨rfl, hb⟩
              have W11 := hid (W10.out.below hb)
              have B11 := hid (B10.out.trans (hb.mono B10.out.size))
              clear hb W10
              have FIN := hid (fun W v (hO : W.ownsRow w3.heap.size 5 1 v r.length (bts r)) (hB : Below w3.heap.size w3 W) => (show DgPost e r w (.returned (.tuple #[v, .int .i64 0])) W by
                rw [he.out]
                exact ⟨v, rfl, own_base hO BB3.out.size, BB3.out.trans (hB.mono BB3.out.size)⟩))
              have hcase : (65535 - p = 0 ∧ sv = 65535) ∨ ((65535 - p == 0) = false ∧ sv = 65535 - p) := by
                by_cases hp0 : 65535 - p = 0
                · exact Or.inl ⟨hp0, by rw [hsd.out, if_pos hp0]⟩
                · exact Or.inr ⟨by simp [hp0], by rw [hsd.out, if_neg hp0]⟩
              clear hsd
              have key := hid (fun (x : Int) (hx : x = sv) => (by rw [hr2.out, ← hx]; exact wPut16_six _ wb _ _ x w11 W11.out (by rw [LBL.out]; omega) (by omega) (by omega) : Calls Try.prog 36 #[.pointer (some ⟨wb, 0, none⟩), .int .i64 6, .int .u16 x] w11 (WPutPost w3.heap.size wb r (8 + (d.length : Int)) w11)))
              rcases hcase with ⟨hp0, hsv⟩ | ⟨hp0, hsv⟩
              · have hpp : p = 65535 := by omega
                subst hpp
                have SV := hid hsv
                have K2 := hid (key.out 65535 hsv.symm)
                clear hp0 hsv key
                go_wp2_with fail
                refine K2.out.mono ?_
                rintro en w12 ⟨rfl, hW, hb⟩
                have W12 := hid hW
                have B12 := hid (B11.out.trans hb)
                clear hW hb
                go_wp2_with fail
                refine (wOut_own _ wb _ _ _ W12.out).mono ?_
                rintro en w13 ⟨v13, rfl, ho, hb⟩
                have F := hid (FIN.out _ _ (own_base ho B12.out.size) (B12.out.trans (hb.mono B12.out.size)))
                clear ho hb
                go_wp2_with fail
                go_ret2
                exact F.out
              · have SV := hid hsv
                have K2 := hid (key.out _ hsv.symm)
                clear hsv key
                go_wp2_with fail
                refine K2.out.mono ?_
                rintro en w12 ⟨rfl, hW, hb⟩
                have W12 := hid hW
                have B12 := hid (B11.out.trans hb)
                clear hW hb
                go_wp2_with fail
                refine (wOut_own _ wb _ _ _ W12.out).mono ?_
                rintro en w13 ⟨v13, rfl, ho, hb⟩
                have F := hid (FIN.out _ _ (own_base ho B12.out.size) (B12.out.trans (hb.mono B12.out.size)))
                clear ho hb
                go_wp2_with fail
                go_ret2
                exact F.out
            · go_wp2_with fail
              refine (wOut_own _ wb _ _ _ W9.out).mono ?_
              rintro en w10 ⟨v10, rfl, ho, hb⟩
              have F := hid (show DgPost e r w (.returned (.tuple #[v10, .int .i64 0])) w10 by
                rw [he.out, hr.out]
                refine ⟨v10, rfl, ?_, BB3.out.trans ((B9.out.trans (hb.mono B9.out.size)).mono BB3.out.size)⟩
                exact own_base ho (Nat.le_trans BB3.out.size B9.out.size))
              clear ho hb
              go_wp2_with fail
              go_ret2
              exact F.out

end Go.Proofs.Ytpiafmnfneefiaa
