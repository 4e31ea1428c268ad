/-
  The statement Ip6Fields, walked.
-/
import Derived.Test.YthbdnmmmibdgpaaLaw6B
namespace Go.Proofs.Ythbdnmmmibdgpaa
open Go.RowKit

set_option maxHeartbeats 1000000 in
set_option maxRecDepth 20000 in
theorem ip6Fields_any (p : Pk) (lo ld : List Int) (w : World) (h : PkIn w p lo ld) : Calls Try.prog 6 #[.agg (pkC p)] w (APost w (.bool true)) := by
  have L1 := h.pin.pk.src.len
  have L2 := h.pin.pk.dst.len
  have PI := hid h.pin
  have LB := hid (And.intro h.lo h.ld)
  have FT := hid (fun W (hP : Pin W p lo ld) => fit_any_x p lo ld W hP LB.out)
  obtain ⟨q, xs, yx, hq, hov, hr, hxl, e1, e2⟩ := fit_q p lo ld w h.pin
  rw [← e1, ← e2] at FT
  clear e1 e2
  have C1 := hid (rc_of hq yx hr)
  have EC := hid (b6L_cons hq hr)
  have RP := hid (right6_parts hr)
  generalize b6L q xs = bl at *
  generalize hn : xs.length = n at *
  generalize hnb : bl.length = nb at *
  have L3 := hq.src.len
  have L4 := hq.dst.len
  have o1 := h.pin.pk.o1
  have x1 := h.pin.pk.x1
  have YB := C1.out.yb
  have YX := yx
  have hn40 : 40 ≤ nb := by have := C1.out.hn; omega
  have g0 : gt bl 0 = w6 q / 16777216 := by rw [EC.out]; rfl
  have g1 : gt bl 1 = w6 q / 65536 % 256 := by rw [EC.out]; rfl
  have g2 : gt bl 2 = w6 q / 256 % 256 := by rw [EC.out]; rfl
  have g3 : gt bl 3 = w6 q % 256 := by rw [EC.out]; rfl
  have hd40 : decide ((nb : Int) < 40) = false := by simp; omega
  have P := hid (fun en w' (h1 : en = .returned (.bool true)) (h2 : Sp w w' []) => show APost w (.bool true) en w' from ⟨h1, h2.bel⟩)
  have S : Hid (Sp w (w.alloc (.cells (pkC p) 28)) [.blk w.heap.size (pkC p) 28]) := hid (Sp.in1 ..)
  have W6 : 0 ≤ w6 q ∧ w6 q ≤ 4294967295 := by have h2 := RP.out.2.1; have h3 := RP.out.2.2.1; unfold w6; omega
  have Q1 := hid hq.src
  have Q2 := hid hq.dst
  have hid0 := hq.id0
  have hid1 := hq.id1
  clear h hr hq hxl hov
  go_enter Try.func6, Try.ntmps6
  go_upto_region 1 with fail
  generalize w.alloc (.cells (pkC p) 28) = w' at *
  generalize w.heap.size = b at *
  go_upto_region 8 with (first
    | go_skip
    | ((with_reducible show wpList _ _ _ _ _ _)
       first
       | ((with_reducible show wpList _ _ _ (⟨_, .load _ _, _, _, _, _⟩ :: _) _ _); first | (refine wpList_getW (by rfl) _ rfl S.out _ rfl 0 _ rfl (by first | rfl | assumption) (by first | rfl | assumption) ?_) | (refine wpList_getW (by rfl) _ rfl S.out _ rfl 1 _ rfl (by first | rfl | assumption) (by first | rfl | assumption) ?_) | (refine wpList_getW (by rfl) _ rfl S.out _ rfl 2 _ rfl (by first | rfl | assumption) (by first | rfl | assumption) ?_) | (refine wpList_getW (by rfl) _ rfl S.out _ rfl 3 _ rfl (by first | rfl | assumption) (by first | rfl | assumption) ?_) | (refine wpList_getW (by rfl) _ rfl S.out _ rfl 4 _ rfl (by first | rfl | assumption) (by first | rfl | assumption) ?_) | (refine wpList_getW (by rfl) _ rfl S.out _ rfl 5 _ rfl (by first | rfl | assumption) (by first | rfl | assumption) ?_))
       | ((with_reducible show wpList _ _ _ (⟨_, .store _ _ _, _, _, _, _⟩ :: _) _ _); first | (refine wpList_putW (by rfl) _ _ rfl rfl S.out _ rfl 0 _ rfl _ rfl (by first | rfl | assumption) (by first | rfl | assumption) (by first | rfl | assumption) (by first | rfl | assumption) (by first | rfl | assumption) (by first | rfl | assumption) ?_; intro w' hS; simp only [List.set] at hS; replace S := hid hS; clear hS) | (refine wpList_putW (by rfl) _ _ rfl rfl S.out _ rfl 1 _ rfl _ rfl (by first | rfl | assumption) (by first | rfl | assumption) (by first | rfl | assumption) (by first | rfl | assumption) (by first | rfl | assumption) (by first | rfl | assumption) ?_; intro w' hS; simp only [List.set] at hS; replace S := hid hS; clear hS) | (refine wpList_putW (by rfl) _ _ rfl rfl S.out _ rfl 2 _ rfl _ rfl (by first | rfl | assumption) (by first | rfl | assumption) (by first | rfl | assumption) (by first | rfl | assumption) (by first | rfl | assumption) (by first | rfl | assumption) ?_; intro w' hS; simp only [List.set] at hS; replace S := hid hS; clear hS) | (refine wpList_putW (by rfl) _ _ rfl rfl S.out _ rfl 3 _ rfl _ rfl (by first | rfl | assumption) (by first | rfl | assumption) (by first | rfl | assumption) (by first | rfl | assumption) (by first | rfl | assumption) (by first | rfl | assumption) ?_; intro w' hS; simp only [List.set] at hS; replace S := hid hS; clear hS) | (refine wpList_putW (by rfl) _ _ rfl rfl S.out _ rfl 4 _ rfl _ rfl (by first | rfl | assumption) (by first | rfl | assumption) (by first | rfl | assumption) (by first | rfl | assumption) (by first | rfl | assumption) (by first | rfl | assumption) ?_; intro w' hS; simp only [List.set] at hS; replace S := hid hS; clear hS)))
    | (go_at_call 10; refine (alive6_any _).mono ?_; rintro en w' ⟨rfl, hb⟩; replace S := hid (S.out.keep hb); clear hb)
    | (go_at_call 22; refine (FT.out _ (PI.out.below S.out.bel)).mono ?_; rintro en w' ⟨sx, cx, rfl, hS⟩; replace hS := S.out.call hS; simp only [List.cons_append, List.nil_append] at hS; replace S := hid hS; clear hS)
    | (go_at_call 12; refine (C1.out.own _ _ (by (first | exact S.out.rb 0 rfl (by assumption) | exact S.out.rb 1 rfl (by assumption) | exact S.out.rb 2 rfl (by assumption) | exact S.out.rb 3 rfl (by assumption) | exact S.out.rb 4 rfl (by assumption) | exact S.out.rb 5 rfl (by assumption) | exact S.out.rb 6 rfl (by assumption))) rfl).mono ?_; rintro en w' ⟨so, co, sz, cz, rfl, hS⟩; have P2 := hid (C1.out.pin hS); replace S := hid (S.out.keep hS.bel); clear hS)
    | (go_at_call 11; refine (C1.out.bld _ _ _ P2.out).mono ?_; clear P2; rintro en w' ⟨ca, cc, rfl, hS⟩; replace hS := S.out.call hS; simp only [List.cons_append, List.nil_append] at hS; replace S := hid hS; clear hS))
  obtain ⟨ga, gc, hg⟩ := S.out.rowopen 0 rfl (by omega)
  simp only [Value.slice.injEq, true_and] at hg
  obtain ⟨rfl, rfl⟩ := hg
  have k0 := S.out.rowcell 0 rfl (j := 0) (by omega)
  have k1 := S.out.rowcell 0 rfl (j := 1) (by omega)
  have k2 := S.out.rowcell 0 rfl (j := 2) (by omega)
  have k3 := S.out.rowcell 0 rfl (j := 3) (by omega)
  rw [g0] at k0
  rw [g1] at k1
  rw [g2] at k2
  rw [g3] at k3
  go_quiet (fail)
  obtain ⟨w3, hw3⟩ : ∃ w3, w3 = w'.drewN nq := ⟨_, rfl⟩
  rw [← hw3]
  have ew : w6 q / 16777216 * 16777216 + w6 q / 65536 % 256 * 65536 + w6 q / 256 % 256 * 256 + w6 q % 256 = w6 q := by omega
  rw [ew]
  replace S := hid (show Sp w w3 _ from S.out.keep (by rw [hw3]; exact (Same.drewN _ _).below _))
  clear hw3 k0 k1 k2 k3 ew
  have hcc := (S.out.cap 0 rfl).1
  have k4 := S.out.rowcell 0 rfl (j := 4) (by omega)
  have k5 := S.out.rowcell 0 rfl (j := 5) (by omega)
  have k7 := S.out.rowcell 0 rfl (j := 7) (by omega)
  have g4 : gt bl 4 = plen6 q n / 256 := by rw [EC.out]; rfl
  have g5 : gt bl 5 = plen6 q n % 256 := by rw [EC.out]; rfl
  have g7 : gt bl 7 = q.TTL := by rw [EC.out]; rfl
  rw [g4] at k4
  rw [g5] at k5
  rw [g7] at k7
  have hlen := C1.out.hn
  have hpl : plen6 q n = (nb : Int) - 40 := by unfold plen6; omega
  rw [hpl] at k4 k5
  clear hlen
  have hnbs := C1.out.small
  have p5 : ((nb : Int) - 40) / 256 * 256 + ((nb : Int) - 40) % 256 = (nb : Int) - 40 := by omega
  obtain ⟨c0, c1, c2, c3, c20, c37, c38, c39, c40, c41, c42, c43, c44, c45⟩ := (S.out.pk 2 rfl).cells L3 L4
  simp only [pkX] at c1 c2 c38
  have d8 : (bl.drop 8).take 16 = q.sB := by rw [EC.out, drop8 rfl, ← L3, List.take_left]
  have d24 : (bl.drop 24).take 16 = q.dB := by rw [EC.out, drop24 L3 rfl, ← L4, List.take_left]
  have RA : Rb w3 (.slice (some ⟨ga, 8, none⟩) 16 (cc - 8)) q.sB := by
    have := (S.out.rb 0 rfl YB).sub 8 24 (by omega) (by omega)
    rw [show (24 : Nat) - 8 = 16 from rfl, d8] at this
    unfold subA at this
    rw [if_neg (by omega)] at this
    exact this
  have RB : Rb w3 (.slice (some ⟨ga, 24, none⟩) 16 (cc - 24)) q.dB := by
    have := (S.out.rb 0 rfl YB).sub 24 40 (by omega) (by omega)
    rw [show (40 : Nat) - 24 = 16 from rfl, d24] at this
    unfold subA at this
    rw [if_neg (by omega)] at this
    exact this
  go_upto_region 9 with fail
  have SA := hid (fun W v u (m : List Int) (h1 : Rb W v m) (h2 : Rb W u m) => (show Calls Try.prog 14 #[v, u] W (SameP W true) from by have := same6_any v u _ _ W h1 h2; rwa [decide_eq_true rfl] at this))
  have RS : Rb w3 (.slice (some ⟨b, 4, none⟩) 16 16) q.sB := by
    have := pk_src_rb (n := 16) (S.out.pk 2 rfl) Q1.out (by decide)
    rwa [List.take_of_length_le (by show q.sB.length ≤ 16; omega)] at this
  have RD : Rb w3 (.slice (some ⟨b, 21, none⟩) 16 16) q.dB := by
    have := pk_dst_rb (n := 16) (S.out.pk 2 rfl) L3 Q2.out (by decide)
    rwa [List.take_of_length_le (by show q.dB.length ≤ 16; omega)] at this
  have t1 := RP.out.2.1
  have t2 := RP.out.2.2.1
  have t4 := RP.out.2.2.2.2.1
  have hw6 : w6 q = 1610612736 + q.TOS * 1048576 + q.Flow := rfl
  have u1 : IntKind.u32.wrap q.TOS = q.TOS := IntWalk.u32_in _ (by omega)
  have u2 : IntKind.u32.wrap (q.TOS * 1048576) = q.TOS * 1048576 := IntWalk.u32_in _ (by omega)
  have u3 : IntKind.u32.wrap (1610612736 + q.TOS * 1048576) = 1610612736 + q.TOS * 1048576 := IntWalk.u32_in _ (by omega)
  have u4 : IntKind.u32.wrap q.Flow = q.Flow := IntWalk.u32_in _ (by omega)
  have u5 : IntKind.u32.wrap (1610612736 + q.TOS * 1048576 + q.Flow) = 1610612736 + q.TOS * 1048576 + q.Flow := IntWalk.u32_in _ (by omega)
  replace RA := hid RA
  replace RB := hid RB
  replace RS := hid RS
  replace RD := hid RD
  go_quiet ((go_at_call 14; first | exact Calls.quiet_of_same (SA.out _ _ _ _ (RA.out.same (Same.drewN _ _)) (RS.out.same (Same.drewN _ _))) | exact Calls.quiet_of_same (SA.out _ _ _ _ (RB.out.same (Same.drewN _ _)) (RD.out.same (Same.drewN _ _)))))
  obtain ⟨w4, hw4⟩ : ∃ w4, w4 = w3.drewN nq := ⟨_, rfl⟩
  rw [← hw4]
  have hb4 : Below w3.heap.size w3 w4 := by rw [hw4]; exact (Same.drewN _ _).below _
  replace S := hid (S.out.keep hb4)
  clear hw4 hb4 k4 k5 k7 c0 c1 c2 c3 c20 c37 c38 c39 c40 c41 c42 c43 c44 c45 RA RB RS RD u1 u2 u3 u4 u5 p5
  have c42 := ((S.out.pk 2 rfl).cells L3 L4).c42
  have c37 := ((S.out.pk 2 rfl).cells L3 L4).c37
  have c45 := ((S.out.pk 2 rfl).cells L3 L4).c45
  simp only [pkX] at c42 c37 c45
  have d40 : bl.drop 40 = fragL q ++ xs := by rw [EC.out, drop40 L3 L4 rfl]
  have g6 : gt bl 6 = nx6 q := by rw [EC.out]; rfl
  have k6 := S.out.rowcell 0 rfl (j := 6) (by omega)
  rw [g6] at k6
  have t3 := RP.out.2.2.2.1
  cases hf : q.Frag
  · rw [hf] at c42
    have hx : nx6 q = q.Proto := by unfold nx6; rw [hf]; rfl
    have hfl : fragL q = [] := by unfold fragL; rw [hf]; rfl
    rw [hfl, List.nil_append] at d40
    rw [hx] at k6
    have RA := (S.out.rb 0 rfl YB).back 40 (by omega)
    rw [d40, C1.out.lb] at RA
    unfold subA at RA
    have RD := S.out.rb 1 rfl YX
    replace RD := hid RD
    have BB := hid S.out.bel
    clear S
    go_upto_region 12 with fail
    rcases Nat.lt_or_ge 40 cc with hc | hc
    · have hc2 : ¬ cc = 40 := by omega
      rw [if_neg hc2] at RA
      replace RA := hid RA
      go_quiet ((go_at_call 14; exact Calls.quiet_of_same (SA.out _ _ _ _ (RA.out.same (Same.drewN _ _)) (RD.out.same (Same.drewN _ _)))))
      go_wp2_with fail
      go_ret
      exact ⟨rfl, BB.out.trans (Same.below (by repeat (first | exact Same.refl _ | exact Same.drewN _ _ | exact Same.trans (Same.drewN _ _) (Same.drewN _ _) | exact Same.trans (Same.trans (Same.drewN _ _) (Same.drewN _ _)) (Same.drewN _ _))) _)⟩
    · obtain rfl : cc = 40 := by omega
      obtain rfl : nb = 40 := by omega
      clear hcc hc hn40
      rw [if_pos rfl] at RA
      replace RA := hid RA
      go_quiet ((go_at_call 14; exact Calls.quiet_of_same (SA.out _ _ _ _ (RA.out.same (Same.drewN _ _)) (RD.out.same (Same.drewN _ _)))))
      go_wp2_with fail
      go_ret
      exact ⟨rfl, BB.out.trans (Same.below (by repeat (first | exact Same.refl _ | exact Same.drewN _ _ | exact Same.trans (Same.drewN _ _) (Same.drewN _ _) | exact Same.trans (Same.trans (Same.drewN _ _) (Same.drewN _ _)) (Same.drewN _ _))) _)⟩
  · rw [hf] at c42
    have hx : nx6 q = 44 := by unfold nx6; rw [hf]; rfl
    have hfl : fragL q = [q.Proto, 0, off6 q / 256, off6 q % 256, q.ID / 16777216, q.ID / 65536 % 256, q.ID / 256 % 256, q.ID % 256] := by unfold fragL; rw [hf]; rfl
    rw [hfl] at d40
    rw [hx] at k6
    have hh : head6 q = 48 := by unfold head6; rw [hf]; rfl
    have hn48 : 48 ≤ nb := by have := C1.out.hn.1; omega
    have hd48 : decide ((nb : Int) < 48) = false := by simp; omega
    have q0 : gt bl 40 = q.Proto := by rw [show (40 : Nat) = 40 + 0 from rfl, gt_drop, d40]; rfl
    have q1 : gt bl 41 = 0 := by rw [show (41 : Nat) = 40 + 1 from rfl, gt_drop, d40]; rfl
    have q2 : gt bl 42 = off6 q / 256 := by rw [show (42 : Nat) = 40 + 2 from rfl, gt_drop, d40]; rfl
    have q3 : gt bl 43 = off6 q % 256 := by rw [show (43 : Nat) = 40 + 3 from rfl, gt_drop, d40]; rfl
    have q4 : gt bl 44 = q.ID / 16777216 := by rw [show (44 : Nat) = 40 + 4 from rfl, gt_drop, d40]; rfl
    have q5 : gt bl 45 = q.ID / 65536 % 256 := by rw [show (45 : Nat) = 40 + 5 from rfl, gt_drop, d40]; rfl
    have q6 : gt bl 46 = q.ID / 256 % 256 := by rw [show (46 : Nat) = 40 + 6 from rfl, gt_drop, d40]; rfl
    have q7 : gt bl 47 = q.ID % 256 := by rw [show (47 : Nat) = 40 + 7 from rfl, gt_drop, d40]; rfl
    have d48 : bl.drop 48 = xs := by rw [show (48 : Nat) = 40 + 8 from rfl, ← List.drop_drop, d40]; rfl
    have k40 := S.out.rowcell 0 rfl (j := 40) (by omega)
    have k41 := S.out.rowcell 0 rfl (j := 41) (by omega)
    have k42 := S.out.rowcell 0 rfl (j := 42) (by omega)
    have k43 := S.out.rowcell 0 rfl (j := 43) (by omega)
    have k44 := S.out.rowcell 0 rfl (j := 44) (by omega)
    have k45 := S.out.rowcell 0 rfl (j := 45) (by omega)
    have k46 := S.out.rowcell 0 rfl (j := 46) (by omega)
    have k47 := S.out.rowcell 0 rfl (j := 47) (by omega)
    rw [q0] at k40
    rw [q1] at k41
    rw [q2] at k42
    rw [q3] at k43
    rw [q4] at k44
    rw [q5] at k45
    rw [q6] at k46
    rw [q7] at k47
    have c39 := ((S.out.pk 2 rfl).cells L3 L4).c39
    have c41 := ((S.out.pk 2 rfl).cells L3 L4).c41
    have c43 := ((S.out.pk 2 rfl).cells L3 L4).c43
    simp only [pkX] at c39 c41 c43
    have RA := (S.out.rb 0 rfl YB).back 48 (by omega)
    rw [d48, C1.out.lb] at RA
    unfold subA at RA
    have RD := S.out.rb 1 rfl YX
    replace RD := hid RD
    have BB := hid S.out.bel
    have t6 := RP.out.2.2.2.2.2.1
    have O6 : (0 ≤ off6 q ∧ off6 q ≤ 65535) ∧ off6 q / 8 * 8 = q.Off ∧ off6 q % 8 = (if q.More = true then 1 else 0) := by
      unfold off6
      cases q.More
      · simp; omega
      · simp; omega
    clear S q0 q1 q2 q3 q4 q5 q6 q7
    obtain ⟨o61, o62, o63⟩ := O6
    generalize off6 q = of at *
    generalize q.ID = id at *
    have eo : of / 256 * 256 + of % 256 = of := by omega
    have ei : id / 16777216 * 16777216 + id / 65536 % 256 * 65536 + id / 256 % 256 * 256 + id % 256 = id := by omega
    go_upto_region 13 with fail
    have hc : cc ≠ 48 ∨ cc = 48 := by omega
    rcases hc with hc | rfl
    rotate_left
    rw [if_pos rfl] at RA
    obtain rfl : nb = 48 := by omega
    clear hcc hn40 hn48
    rotate_left
    rw [if_neg hc] at RA
    all_goals
     replace RA := hid RA
     go_quiet ((go_at_call 14; exact Calls.quiet_of_same (SA.out _ _ _ _ (RA.out.same (Same.drewN _ _)) (RD.out.same (Same.drewN _ _)))))
     go_upto_region 15 with fail
     go_quiet (fail)
     (try rw [eo])
     go_upto_region 16 with fail
     go_quiet (fail)
     (try rw [ei])
     cases hm : q.More
     · rw [hm] at c41 o63
       simp only [Bool.false_eq_true, if_false] at o63
       go_wp2_with fail
       go_ret
       exact ⟨rfl, BB.out.trans (Same.below (by repeat (first | exact Same.refl _ | exact Same.drewN _ _ | exact Same.trans (Same.drewN _ _) (Same.drewN _ _) | exact Same.trans (Same.trans (Same.drewN _ _) (Same.drewN _ _)) (Same.drewN _ _))) _)⟩
     · rw [hm] at c41 o63
       simp only [if_true] at o63
       go_wp2_with fail
       go_ret
       exact ⟨rfl, BB.out.trans (Same.below (by repeat (first | exact Same.refl _ | exact Same.drewN _ _ | exact Same.trans (Same.drewN _ _) (Same.drewN _ _) | exact Same.trans (Same.trans (Same.drewN _ _) (Same.drewN _ _)) (Same.drewN _ _))) _)⟩
end Go.Proofs.Ythbdnmmmibdgpaa
