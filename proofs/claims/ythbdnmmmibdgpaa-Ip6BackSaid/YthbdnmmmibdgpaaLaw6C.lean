/-
  The statement Ip6Back, walked.
-/
import Derived.Test.YthbdnmmmibdgpaaLaw6B
namespace Go.Proofs.Ythbdnmmmibdgpaa
open Go.RowKit

set_option maxHeartbeats 1000000 in
set_option maxRecDepth 20000 in
theorem ip6Back_any (p : Pk) (lo ld : List Int) (bv : Value) (l : List Int) (w : World) (h : PkIn w p lo ld) (hb : Rb w bv l) (hl : l.length ≤ 140737488355328) : Calls Try.prog 5 #[.agg (pkC p), bv] w (APost w (.bool true)) := by
  have L1 := h.pin.pk.src.len
  have L2 := h.pin.pk.dst.len
  have PI := hid h.pin
  have LB := hid (And.intro h.lo h.ld)
  have FT := hid (fun W (hP : Pin W p lo ld) => fit_any_x p lo ld W hP LB.out)
  obtain ⟨q, xs, yx, hq, hov, hr, hxl, e1, e2⟩ := fit_q p lo ld w h.pin
  rw [← e1, ← e2] at FT
  clear e1 e2 hov
  have C1 := hid (rc_of hq yx hr)
  generalize b6L q xs = bl at *
  generalize hn : xs.length = n at *
  generalize hnb : bl.length = nb at *
  have YX := C1.out.yx
  have YB := C1.out.yb
  have L3 := C1.out.l1
  have L4 := C1.out.l2
  have HB := hid hb
  have HL := hid hl
  have YL := hb.byt
  obtain ⟨ba, bc, eb, _⟩ := hb.open
  subst eb
  have SZ := hid same_zero
  have SA := hid (fun W v u (h1 : Rb W v l) (h2 : Rb W u l) => (show Calls Try.prog 14 #[v, u] W (SameP W true) from by have := same6_any v u _ _ W h1 h2; rwa [decide_eq_true rfl] at this))
  have P := hid (fun en w' (h1 : en = .returned (.bool true)) (h2 : Sp w w' []) => show APost w (.bool true) en w' from ⟨h1, h2.bel⟩)
  have S : Hid (Sp w (w.alloc (.cells (pkC p) 28)) [.blk w.heap.size (pkC p) 28]) := hid (Sp.in1 ..)
  clear h hb hl hq hr yx hxl
  have CS : (∃ qb xb m, Hid (RC qb xb l m l.length) ∧ Byt xb ∧ qb.sB.length = 16 ∧ qb.dB.length = 16) ∨ ∃ k, Hid (∀ v W, Rb W v l → Calls Try.prog 19 #[v] W (APost W (.tuple #[.agg (pkC pk0), .int .i64 k]))) ∧ (k = 20 ∨ k = 50 ∨ k = 51) := by
    by_cases he : p6E l = 0
    · obtain ⟨f1, f2, f3⟩ := form6 YL he (v := .slice none 0 0) rfl
      have := rc_of (p6K_is YL (p6E_parts he).1 (v := .slice none 0 0) rfl) (YL.drop (from6 l)) f2
      rw [f1] at this
      exact .inl ⟨_, _, _, hid this, YL.drop _, this.l1, this.l2⟩
    · refine .inr ⟨p6E l, hid fun v W h => par_no he v W h, ?_⟩
      rcases p6E_kinds l with h | h | h | h
      · exact absurd h he
      · exact .inl h
      · exact .inr (.inl h)
      · exact .inr (.inr h)
  rcases CS with ⟨qb, xb, m, C2, Y2, L5, L6⟩ | ⟨k, PB, rfl | rfl | rfl⟩
  all_goals (
  go_enter Try.func5, Try.ntmps5
  go_upto_region 1 with fail
  generalize w.alloc (.cells (pkC p) 28) = w' at *
  generalize w.heap.size = b at *
  go_wp2_with (first
    | go_skip
    | ((with_reducible show Code.wp _ (Code.region 13 _ true) _ _ _)
       have hm1 := C2.out.hn
       have hm2 := C2.out.small
       have s1 : IntKind.i64.wrap (l.length : Int) = (l.length : Int) := IntWalk.i64_in _ (by omega)
       have hm3 : head6 qb + (m : Int) = (l.length : Int) := hm1.1.symm
       clear hm1 hm2
       refine wp_region_canon ((0, false) :: (1, false) :: (2, false) :: (3, false) :: (4, false) :: (5, true) :: (6, false) :: (7, false) :: (8, false) :: (9, true) :: (10, true) :: (11, false) :: (12, false) :: (13, false) :: (16, false) :: (17, false) :: (18, false) :: (20, false) :: (21, false) :: (14, true) :: (15, true) :: (19, false) :: (22, false) :: (23, false) :: (24, false) :: []) (fun W => Below w'.heap.size w' W) (by kernel_rfl) (by kernel_rfl) (fun c a d v w h => by cases d <;> exact h) ?_ ?_
       · exact (Same.drew _).below _
       simp only [pick, List.getElem?_cons_succ, List.getElem?_cons_zero]
       have B0 := hid ((Same.drew w').below w'.heap.size)
       (repeat (first | (refine wpD_weak (by rfl) ?_; apply Exists.intro; refine ⟨fun wS hS => ?_, ?_⟩; (focus (go_simp; (try with_reducible rfl); done)); simp only [Act.put, List.setIfInBounds_toArray, List.set_cons_zero, List.set_cons_succ]) | (refine wpD_pass (by rfl) ?_; simp only [Act.put, List.setIfInBounds_toArray, List.set_cons_zero, List.set_cons_succ])))
       (refine wpD_strong (by rfl) (fun K hK => ?_); go_simp)
       refine (SA.out _ _ _ ((S.out.keep B0.out).rb 0 rfl YL) ((S.out.keep B0.out).old HB.out)).mono ?_
       rintro en wk ⟨rfl, rfl⟩
       (refine hK _ _ (by exact B0.out) ?_; clear hK K; (try simp only [Act.put, List.setIfInBounds_toArray, List.set_cons_zero, List.set_cons_succ]))
       (repeat (first | (refine wpD_weak (by rfl) ?_; apply Exists.intro; refine ⟨fun wS hS => ?_, ?_⟩; (focus (go_simp; (try with_reducible rfl); done)); simp only [Act.put, List.setIfInBounds_toArray, List.set_cons_zero, List.set_cons_succ]) | (refine wpD_pass (by rfl) ?_; simp only [Act.put, List.setIfInBounds_toArray, List.set_cons_zero, List.set_cons_succ])))
       refine wpD_load_pk (by rfl) _ rfl _ _ rfl (fun _ hS => (S.out.keep hS).pk 1 rfl) L5 L6 ?_
       (try simp only [Act.put, List.setIfInBounds_toArray, List.set_cons_zero, List.set_cons_succ])
       (refine wpD_strong (by rfl) (fun K hK => ?_); go_simp)
       refine (C2.out.own _ _ ((S.out.keep B0.out).rb 2 rfl Y2) rfl).mono ?_
       rintro en wk ⟨so, co, sz, cz, rfl, hS2⟩
       have hp := C2.out.pin hS2
       have hb := hS2.bel
       clear hS2
       replace B0 := hid (B0.out.trans (hb.mono B0.out.size)); clear hb
       (refine hK _ _ (by exact B0.out) ?_; clear hK K; (try simp only [Act.put, List.setIfInBounds_toArray, List.set_cons_zero, List.set_cons_succ]))
       (refine wpD_strong (by rfl) (fun K hK => ?_); go_simp)
       refine (C2.out.rgt _ _ _ hp).mono ?_
       clear hp
       rintro en wk ⟨rfl, hb⟩
       replace B0 := hid (B0.out.trans (hb.mono B0.out.size)); clear hb
       (refine hK _ _ (by exact B0.out) ?_; clear hK K; (try simp only [Act.put, List.setIfInBounds_toArray, List.set_cons_zero, List.set_cons_succ]))
       (repeat (first | (refine wpD_weak (by rfl) ?_; apply Exists.intro; refine ⟨fun wS hS => ?_, ?_⟩; (focus (go_simp; (try with_reducible rfl); done)); simp only [Act.put, List.setIfInBounds_toArray, List.set_cons_zero, List.set_cons_succ]) | (refine wpD_pass (by rfl) ?_; simp only [Act.put, List.setIfInBounds_toArray, List.set_cons_zero, List.set_cons_succ])))
       refine wpD_load_pk (by rfl) _ rfl _ _ rfl (fun _ hS => (S.out.keep hS).pk 1 rfl) L5 L6 ?_
       (try simp only [Act.put, List.setIfInBounds_toArray, List.set_cons_zero, List.set_cons_succ])
       (repeat (first | (refine wpD_weak (by rfl) ?_; apply Exists.intro; refine ⟨fun wS hS => ?_, ?_⟩; (focus (have c45 := (((S.out.keep hS).pk 1 rfl).cells L5 L6).c45; simp only [pkX] at c45; go_simp; (try with_reducible rfl); done)); simp only [Act.put, List.setIfInBounds_toArray, List.set_cons_zero, List.set_cons_succ]) | (refine wpD_pass (by rfl) ?_; simp only [Act.put, List.setIfInBounds_toArray, List.set_cons_zero, List.set_cons_succ])))
       (refine wpD_strong (by rfl) (fun K hK => ?_); go_simp)
       refine (C2.out.own _ _ ((S.out.keep B0.out).rb 2 rfl Y2) rfl).mono ?_
       rintro en wk ⟨so, co, sz, cz, rfl, hS2⟩
       have hp := C2.out.pin hS2
       have hb := hS2.bel
       clear hS2
       replace B0 := hid (B0.out.trans (hb.mono B0.out.size)); clear hb
       (refine hK _ _ (by exact B0.out) ?_; clear hK K; (try simp only [Act.put, List.setIfInBounds_toArray, List.set_cons_zero, List.set_cons_succ]))
       (refine wpD_strong (by rfl) (fun K hK => ?_); go_simp)
       refine (C2.out.hd _ _ _ hp).mono ?_
       clear hp
       rintro en wk ⟨rfl, hb⟩
       replace B0 := hid (B0.out.trans (hb.mono B0.out.size)); clear hb
       (refine hK _ _ (by exact B0.out) ?_; clear hK K; (try simp only [Act.put, List.setIfInBounds_toArray, List.set_cons_zero, List.set_cons_succ]))
       (repeat (first | (refine wpD_weak (by rfl) ?_; apply Exists.intro; refine ⟨fun wS hS => ?_, ?_⟩; (focus (go_simp; (try with_reducible rfl); done)); simp only [Act.put, List.setIfInBounds_toArray, List.set_cons_zero, List.set_cons_succ]) | (refine wpD_pass (by rfl) ?_; simp only [Act.put, List.setIfInBounds_toArray, List.set_cons_zero, List.set_cons_succ])))
       refine wpD_nil ?_
       replace S := hid (S.out.keep B0.out)
       clear B0)
    | (((with_reducible show wpList _ _ _ (_ :: _) _ (World.alloc _ (.cells _ 5))); refine wpList_world fun w' hw2 => ?_; (first | (replace S := hid (S.out.lit (l := []) (n := 0) hw2 rfl rfl (by decide))) | (replace S := hid (S.out.lit (l := [_]) (n := 1) hw2 rfl rfl (by decide))) | (replace S := hid (S.out.lit (l := [_, _]) (n := 2) hw2 rfl rfl (by decide))) | (replace S := hid (S.out.lit (l := [_, _, _]) (n := 3) hw2 rfl rfl (by decide))) | (replace S := hid (S.out.lit (l := [_, _, _, _]) (n := 4) hw2 rfl rfl (by decide)))); clear hw2))
    | (((with_reducible show wpList _ _ _ (_ :: _) _ (World.alloc _ (.cells _ 28))); refine wpList_world fun w' hw2 => ?_; replace S := hid (show Sp _ _ (.blk _ (pkC pk0) 28 :: _) from S.out.alloc hw2); clear hw2))
    | ((with_reducible show wpList _ _ _ _ _ _)
       first
       | ((with_reducible show wpList _ _ _ (⟨_, .load _ _, _, _, _, _⟩ :: _) _ _); first | (refine wpList_getW (by rfl) _ rfl S.out _ rfl 0 _ rfl (by first | rfl | assumption) (by first | rfl | assumption) ?_) | (refine wpList_getW (by rfl) _ rfl S.out _ rfl 1 _ rfl (by first | rfl | assumption) (by first | rfl | assumption) ?_) | (refine wpList_getW (by rfl) _ rfl S.out _ rfl 2 _ rfl (by first | rfl | assumption) (by first | rfl | assumption) ?_) | (refine wpList_getW (by rfl) _ rfl S.out _ rfl 3 _ rfl (by first | rfl | assumption) (by first | rfl | assumption) ?_) | (refine wpList_getW (by rfl) _ rfl S.out _ rfl 4 _ rfl (by first | rfl | assumption) (by first | rfl | assumption) ?_) | (refine wpList_getW (by rfl) _ rfl S.out _ rfl 5 _ rfl (by first | rfl | assumption) (by first | rfl | assumption) ?_))
       | ((with_reducible show wpList _ _ _ (⟨_, .store _ _ _, _, _, _, _⟩ :: _) _ _); first | (refine wpList_putW (by rfl) _ _ rfl rfl S.out _ rfl 0 _ rfl _ rfl (by first | rfl | assumption) (by first | rfl | assumption) (by first | rfl | assumption) (by first | rfl | assumption) (by first | rfl | assumption) (by first | rfl | assumption) ?_; intro w' hS; simp only [List.set_cons_zero, List.set_cons_succ] at hS; replace S := hid hS; clear hS) | (refine wpList_putW (by rfl) _ _ rfl rfl S.out _ rfl 1 _ rfl _ rfl (by first | rfl | assumption) (by first | rfl | assumption) (by first | rfl | assumption) (by first | rfl | assumption) (by first | rfl | assumption) (by first | rfl | assumption) ?_; intro w' hS; simp only [List.set_cons_zero, List.set_cons_succ] at hS; replace S := hid hS; clear hS) | (refine wpList_putW (by rfl) _ _ rfl rfl S.out _ rfl 2 _ rfl _ rfl (by first | rfl | assumption) (by first | rfl | assumption) (by first | rfl | assumption) (by first | rfl | assumption) (by first | rfl | assumption) (by first | rfl | assumption) ?_; intro w' hS; simp only [List.set_cons_zero, List.set_cons_succ] at hS; replace S := hid hS; clear hS) | (refine wpList_putW (by rfl) _ _ rfl rfl S.out _ rfl 3 _ rfl _ rfl (by first | rfl | assumption) (by first | rfl | assumption) (by first | rfl | assumption) (by first | rfl | assumption) (by first | rfl | assumption) (by first | rfl | assumption) ?_; intro w' hS; simp only [List.set_cons_zero, List.set_cons_succ] at hS; replace S := hid hS; clear hS) | (refine wpList_putW (by rfl) _ _ rfl rfl S.out _ rfl 4 _ rfl _ rfl (by first | rfl | assumption) (by first | rfl | assumption) (by first | rfl | assumption) (by first | rfl | assumption) (by first | rfl | assumption) (by first | rfl | assumption) ?_; intro w' hS; simp only [List.set_cons_zero, List.set_cons_succ] at hS; replace S := hid hS; clear hS))
       | (at_builtin; first
          | (refine wpList_grow (by rfl) _ _ rfl S.out 0 rfl rfl _ bl rfl (S.out.rb 1 rfl YB) nb (by have := C1.out.lb; omega) (by have := C1.out.small; omega) ?_; rintro ca cc w' hS; simp only [List.set_cons_zero, List.nil_append] at hS; replace S := hid hS; clear hS)
          | (refine wpList_grow (by rfl) _ _ rfl S.out 0 rfl rfl _ l rfl (S.out.old HB.out) l.length (by omega) (by have := HL.out; omega) ?_; rintro ca cc w' hS; simp only [List.set_cons_zero, List.nil_append] at hS; replace S := hid hS; clear hS)))
    | (go_at_call 10; refine (alive6_any _).mono ?_; rintro en w' ⟨rfl, hb⟩; replace S := hid (S.out.keep hb); clear hb)
    | (go_at_call 22; refine (FT.out _ (PI.out.below S.out.bel)).mono ?_; rintro en w' ⟨sx, cx, rfl, hS⟩; replace hS := S.out.call hS; simp only [List.cons_append, List.nil_append] at hS; replace S := hid hS; clear hS)
    | (go_at_call 12; first
       | ((have M3 := M2); refine (C2.out.own _ _ (by (first | exact S.out.rb 0 rfl (by assumption) | exact S.out.rb 1 rfl (by assumption) | exact S.out.rb 2 rfl (by assumption) | exact S.out.rb 3 rfl (by assumption) | exact S.out.rb 4 rfl (by assumption) | exact S.out.rb 5 rfl (by assumption) | exact S.out.rb 6 rfl (by assumption))) rfl).mono ?_; rintro en w' ⟨so, co, sz, cz, rfl, hS⟩; have P2 := hid (C2.out.pin hS); replace S := hid (S.out.keep hS.bel); clear hS)
       | (refine (C1.out.own _ _ (by (first | exact S.out.rb 0 rfl (by assumption) | exact S.out.rb 1 rfl (by assumption) | exact S.out.rb 2 rfl (by assumption) | exact S.out.rb 3 rfl (by assumption) | exact S.out.rb 4 rfl (by assumption) | exact S.out.rb 5 rfl (by assumption) | exact S.out.rb 6 rfl (by assumption))) rfl).mono ?_; rintro en w' ⟨so, co, sz, cz, rfl, hS⟩; have P2 := hid (C1.out.pin hS); replace S := hid (S.out.keep hS.bel); clear hS))
    | (go_at_call 11; first
       | ((have M3 := M2); refine (C2.out.bld _ _ _ P2.out).mono ?_; clear P2; rintro en w' ⟨ca, cc, rfl, hS⟩; replace hS := S.out.call hS; simp only [List.cons_append, List.nil_append] at hS; replace S := hid hS; clear hS)
       | (refine (C1.out.bld _ _ _ P2.out).mono ?_; clear P2; rintro en w' ⟨ca, cc, rfl, hS⟩; replace hS := S.out.call hS; simp only [List.cons_append, List.nil_append] at hS; replace S := hid hS; clear hS))
    | (go_at_call 19; first
       | (refine (C1.out.par _ _ (by (first | exact S.out.rb 0 rfl (by assumption) | exact S.out.rb 1 rfl (by assumption) | exact S.out.rb 2 rfl (by assumption) | exact S.out.rb 3 rfl (by assumption) | exact S.out.rb 4 rfl (by assumption) | exact S.out.rb 5 rfl (by assumption) | exact S.out.rb 6 rfl (by assumption)))).mono ?_; rintro en w' ⟨sx, cx, rfl, hS⟩; replace S := hid (S.out.sub (List.sublist_cons_self _ _)); replace hS := S.out.call hS; simp only [List.cons_append, List.nil_append] at hS; replace S := hid hS; clear hS)
       | (refine (C2.out.par _ _ (by (first | exact S.out.rb 0 rfl (by assumption) | exact S.out.rb 1 rfl (by assumption) | exact S.out.rb 2 rfl (by assumption) | exact S.out.rb 3 rfl (by assumption) | exact S.out.rb 4 rfl (by assumption) | exact S.out.rb 5 rfl (by assumption) | exact S.out.rb 6 rfl (by assumption)))).mono ?_; have M2 := True.intro; rintro en w' ⟨sx, cx, rfl, hS⟩; replace S := hid (S.out.sub (List.sublist_cons_self _ _)); replace hS := S.out.call hS; simp only [List.cons_append, List.nil_append] at hS; replace S := hid hS; clear hS)
       | (refine (PB.out _ _ (by (first | exact S.out.rb 0 rfl (by assumption) | exact S.out.rb 1 rfl (by assumption) | exact S.out.rb 2 rfl (by assumption) | exact S.out.rb 3 rfl (by assumption) | exact S.out.rb 4 rfl (by assumption) | exact S.out.rb 5 rfl (by assumption) | exact S.out.rb 6 rfl (by assumption)))).mono ?_; have M2 := True.intro; rintro en w' ⟨rfl, hb⟩; replace S := hid (S.out.keep hb); clear hb; replace S := hid (S.out.sub (List.sublist_cons_self _ _))))
    | (go_at_call 21; first
       | ((have M3 := M2); refine (SZ.out _).mono ?_; rintro en w' ⟨rfl, hb⟩; replace S := hid (S.out.keep hb); clear hb)
       | (refine (C1.out.same _ _ _ (by (first | exact S.out.rb 0 rfl (by assumption) | exact S.out.rb 1 rfl (by assumption) | exact S.out.rb 2 rfl (by assumption) | exact S.out.rb 3 rfl (by assumption) | exact S.out.rb 4 rfl (by assumption) | exact S.out.rb 5 rfl (by assumption) | exact S.out.rb 6 rfl (by assumption))) (by (first | exact S.out.rb 0 rfl (by assumption) | exact S.out.rb 1 rfl (by assumption) | exact S.out.rb 2 rfl (by assumption) | exact S.out.rb 3 rfl (by assumption) | exact S.out.rb 4 rfl (by assumption) | exact S.out.rb 5 rfl (by assumption) | exact S.out.rb 6 rfl (by assumption))) rfl rfl).mono ?_; rintro en w' ⟨rfl, hb⟩; replace S := hid (S.out.keep hb); clear hb))
    | (go_at_call 15; refine (C1.out.rgt _ _ _ P2.out).mono ?_; clear P2; rintro en w' ⟨rfl, hb⟩; replace S := hid (S.out.keep hb); clear hb))
  all_goals
    go_ret
    exact P.out _ _ rfl S.out.nil
  )
end Go.Proofs.Ythbdnmmmibdgpaa
