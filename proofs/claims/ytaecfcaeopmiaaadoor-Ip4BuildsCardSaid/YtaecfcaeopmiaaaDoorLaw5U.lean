/-
  The statement Ip4Builds, walked.
-/
import Derived.Test.YtaecfcaeopmiaaaDoorRf5B
import Derived.Test.YtaecfcaeopmiaaaDoorLaw5B
import Derived.Test.YtaecfcaeopmiaaaDoorLnt
namespace Go.Proofs.YtaecfcaeopmiaaaDoor
open Go.RowKit

theorem r5build_no (p : Pk) (os xs : List Int) (w : World) (h : Pin w p os xs) (hl : os.length ≤ 140737488355328 ∧ xs.length ≤ 140737488355328) (hr : right4 p os xs.length = false) : Calls Tryd.prog 19 #[.agg (pkC p)] w (B6Post 1 [] w) := by
  have L1 := h.pk.src.len
  have L2 := h.pk.dst.len
  have PI := hid h
  have R := fun W hP => r5right_any p os xs W hP hl
  rw [hr] at R
  have R := hid R
  have P0 := hid (fun w' (h2 : Sp w w' []) => (show B6Post 1 [] w (.returned (.tuple #[.slice none 0 0, .int .i64 1])) w' from ⟨_, rfl, World.ownsRow_nil _ _ _ _, h2.bel⟩))
  have S : Hid (Sp w (w.alloc (.cells (pkC p) 30)) [.blk w.heap.size (pkC p) 30]) := hid (Sp.in1 ..)
  clear h hl hr
  go_enter Tryd.func19, Tryd.ntmps19
  go_upto_region 1 with fail
  generalize w.alloc (.cells (pkC p) 30) = w' at *
  generalize w.heap.size = b at *
  go_wp2_with (first
    | go_skip
    | ((with_reducible show wpList _ _ _ _ _ _); ((with_reducible show wpList _ _ _ (⟨_, .load _ _, _, _, _, _⟩ :: _) _ _); first | (first | (refine wpList_getW (by rfl) _ rfl S.out _ rfl 0 _ rfl (by first | rfl | assumption) (by first | rfl | assumption) ?_) | (refine wpList_getW (by rfl) _ rfl S.out _ rfl 1 _ rfl (by first | rfl | assumption) (by first | rfl | assumption) ?_) | (refine wpList_getW (by rfl) _ rfl S.out _ rfl 2 _ rfl (by first | rfl | assumption) (by first | rfl | assumption) ?_) | (refine wpList_getW (by rfl) _ rfl S.out _ rfl 3 _ rfl (by first | rfl | assumption) (by first | rfl | assumption) ?_) | (refine wpList_getW (by rfl) _ rfl S.out _ rfl 4 _ rfl (by first | rfl | assumption) (by first | rfl | assumption) ?_) | (refine wpList_getW (by rfl) _ rfl S.out _ rfl 5 _ rfl (by first | rfl | assumption) (by first | rfl | assumption) ?_)) | (first | (refine wpList_get_pk (by rfl) _ _ rfl S.out _ _ rfl 0 _ rfl _ rfl (by rfl) (by first | rfl | assumption) (by first | rfl | assumption) ?_) | (refine wpList_get_pk (by rfl) _ _ rfl S.out _ _ rfl 1 _ rfl _ rfl (by rfl) (by first | rfl | assumption) (by first | rfl | assumption) ?_) | (refine wpList_get_pk (by rfl) _ _ rfl S.out _ _ rfl 2 _ rfl _ rfl (by rfl) (by first | rfl | assumption) (by first | rfl | assumption) ?_) | (refine wpList_get_pk (by rfl) _ _ rfl S.out _ _ rfl 3 _ rfl _ rfl (by rfl) (by first | rfl | assumption) (by first | rfl | assumption) ?_) | (refine wpList_get_pk (by rfl) _ _ rfl S.out _ _ rfl 4 _ rfl _ rfl (by rfl) (by first | rfl | assumption) (by first | rfl | assumption) ?_) | (refine wpList_get_pk (by rfl) _ _ rfl S.out _ _ rfl 5 _ rfl _ rfl (by rfl) (by first | rfl | assumption) (by first | rfl | assumption) ?_))))
    | (go_at_call 21; refine (R.out _ (PI.out.below S.out.bel)).mono ?_; rintro en w' ⟨rfl, hb⟩; replace S := hid (S.out.keep hb); clear hb))
  go_ret2
  exact P0.out _ S.out.nil
theorem r5build_yes (p : Pk) (os xs : List Int) (w : World) (h : Pin w p os xs) (hr : right4 p os xs.length = true) : Calls Tryd.prog 19 #[.agg (pkC p)] w (B6Post 0 (b4L p os xs) w) := by
  have L1 := h.pk.src.len
  have L2 := h.pk.dst.len
  have PI := hid h
  have hv := validB_len (right4_parts hr).2.2.2.2.2.1
  have hsm := (right4_parts hr).2.2.2.2.2.2
  have R := fun W hP => r5right_any p os xs W hP (by omega)
  rw [hr] at R
  have R := hid R
  have LY := hid (fun W hP => r5lay_any p os xs W hP hr)
  unfold Own1 at LY
  have P1 := hid (fun w' a c (hS : Sp w w' [.row (.slice a (b4L p os xs).length c) 5 1 (b4L p os xs).length (bts (b4L p os xs))]) => (show B6Post 0 (b4L p os xs) w (.returned (.tuple #[.slice a (b4L p os xs).length c, .int .i64 0])) w' from ⟨_, rfl, hS.own 0 rfl, hS.bel⟩))
  generalize b4L p os xs = bl at *
  have S : Hid (Sp w (w.alloc (.cells (pkC p) 30)) [.blk w.heap.size (pkC p) 30]) := hid (Sp.in1 ..)
  generalize bl.length = nb at *
  clear h hr hv hsm
  go_enter Tryd.func19, Tryd.ntmps19
  go_upto_region 1 with fail
  generalize w.alloc (.cells (pkC p) 30) = w' at *
  generalize w.heap.size = b at *
  go_wp2_with (first
    | go_skip
    | ((with_reducible show wpList _ _ _ _ _ _); ((with_reducible show wpList _ _ _ (⟨_, .load _ _, _, _, _, _⟩ :: _) _ _); first | (first | (refine wpList_getW (by rfl) _ rfl S.out _ rfl 0 _ rfl (by first | rfl | assumption) (by first | rfl | assumption) ?_) | (refine wpList_getW (by rfl) _ rfl S.out _ rfl 1 _ rfl (by first | rfl | assumption) (by first | rfl | assumption) ?_) | (refine wpList_getW (by rfl) _ rfl S.out _ rfl 2 _ rfl (by first | rfl | assumption) (by first | rfl | assumption) ?_) | (refine wpList_getW (by rfl) _ rfl S.out _ rfl 3 _ rfl (by first | rfl | assumption) (by first | rfl | assumption) ?_) | (refine wpList_getW (by rfl) _ rfl S.out _ rfl 4 _ rfl (by first | rfl | assumption) (by first | rfl | assumption) ?_) | (refine wpList_getW (by rfl) _ rfl S.out _ rfl 5 _ rfl (by first | rfl | assumption) (by first | rfl | assumption) ?_)) | (first | (refine wpList_get_pk (by rfl) _ _ rfl S.out _ _ rfl 0 _ rfl _ rfl (by rfl) (by first | rfl | assumption) (by first | rfl | assumption) ?_) | (refine wpList_get_pk (by rfl) _ _ rfl S.out _ _ rfl 1 _ rfl _ rfl (by rfl) (by first | rfl | assumption) (by first | rfl | assumption) ?_) | (refine wpList_get_pk (by rfl) _ _ rfl S.out _ _ rfl 2 _ rfl _ rfl (by rfl) (by first | rfl | assumption) (by first | rfl | assumption) ?_) | (refine wpList_get_pk (by rfl) _ _ rfl S.out _ _ rfl 3 _ rfl _ rfl (by rfl) (by first | rfl | assumption) (by first | rfl | assumption) ?_) | (refine wpList_get_pk (by rfl) _ _ rfl S.out _ _ rfl 4 _ rfl _ rfl (by rfl) (by first | rfl | assumption) (by first | rfl | assumption) ?_) | (refine wpList_get_pk (by rfl) _ _ rfl S.out _ _ rfl 5 _ rfl _ rfl (by rfl) (by first | rfl | assumption) (by first | rfl | assumption) ?_))))
    | (go_at_call 21; refine (R.out _ (PI.out.below S.out.bel)).mono ?_; rintro en w' ⟨rfl, hb⟩; replace S := hid (S.out.keep hb); clear hb)
    | (go_at_call 50; refine (LY.out _ (PI.out.below S.out.bel)).mono ?_; rintro en w' ⟨ca, cc, rfl, hS⟩; replace hS := S.out.call hS; simp only [List.cons_append, List.nil_append] at hS; replace S := hid hS; clear hS))
  go_ret2
  exact P1.out _ _ _ (S.out.sub (by repeat (first | exact List.Sublist.refl _ | exact List.nil_sublist _ | apply List.Sublist.cons_cons | apply List.Sublist.cons)))
theorem r5build_any (p : Pk) (os xs : List Int) (w : World) (h : Pin w p os xs) (hl : os.length ≤ 140737488355328 ∧ xs.length ≤ 140737488355328) : Calls Tryd.prog 19 #[.agg (pkC p)] w (B6Post (if right4 p os xs.length = true then 0 else 1) (if right4 p os xs.length = true then b4L p os xs else []) w) := by
  cases hr : right4 p os xs.length
  · exact r5build_no p os xs w h hl hr
  · exact r5build_yes p os xs w h hr
set_option maxHeartbeats 4000000 in
set_option maxRecDepth 20000 in
theorem ip4Builds_any (p : Pk) (lo ld : List Int) (w : World) (hT : Tab w) (h : Pin w p lo ld) (hl : lo.length ≤ 140737488355328 ∧ ld.length ≤ 140737488355328) : Calls Tryd.prog 4 #[.agg (pkC p)] w (APost w (.bool true)) := by
  have L1 := h.pk.src.len
  have L2 := h.pk.dst.len
  have TB := hid hT
  have PI := hid h
  have hyb : Byt (if right4 p lo ld.length = true then b4L p lo ld else []) := by
    cases hr : right4 p lo ld.length
    · exact Byt.nil
    · exact b4L_byt h.pk h.oR.byt h.xR.byt hr
  have AL := hid (fun W (hT : Tab W) => alive5_any W hT)
  have LE := hid (fun W (hP : Pin W p lo ld) => lent_any p lo ld W hP hl)
  have KE := hid (fun W so co sx cx (hP : Pin W p lo ld) (h1 : Rb W (.slice so (lo.length + 2) co) (lo ++ [165, 166])) (h2 : Rb W (.slice sx (ld.length + 2) cx) (ld ++ [167, 168])) => kept_any p lo ld lo.length ld.length so sx co cx W hP rfl rfl hl h1 h2)
  have PN := hid (fun W so co sx cx (h1 : Rb W (.slice so (lo.length + 2) co) (lo ++ [165, 166])) (h2 : Rb W (.slice sx (ld.length + 2) cx) (ld ++ [167, 168])) => (show Pin W (pkO p (.slice so lo.length co) (.slice sx ld.length cx)) lo ld from
    ⟨⟨h.pk.src, h.pk.dst, h.pk.id0, h.pk.id1, rfl, rfl⟩, by have := h1.front lo.length (by simp); rwa [List.take_left] at this, by have := h2.front ld.length (by simp); rwa [List.take_left] at this⟩))
  have B1 := hid (fun W o x (hP : Pin W (pkO p o x) lo ld) (hT : Tab W) => (show Calls Tryd.prog 18 #[.agg (pkC (pkO p o x))] W (B6Post (if right4 p lo ld.length = true then 0 else 1) (if right4 p lo ld.length = true then b4L p lo ld else []) W) from build4_any (pkO p o x) lo ld W hP hT hl))
  have B2 := hid (fun W (hP : Pin W p lo ld) => r5build_any p lo ld W hP hl)
  have R1 := hid (fun W o x (hP : Pin W (pkO p o x) lo ld) (hT : Tab W) => (show Calls Tryd.prog 20 #[.agg (pkC (pkO p o x))] W (APost W (.bool (right4 p lo ld.length))) from right4_any (pkO p o x) lo ld W hP hT hl))
  have R2 := hid (fun W (hP : Pin W p lo ld) => r5right_any p lo ld W hP hl)
  have H1 := hid (fun W o x (hP : Pin W (pkO p o x) lo ld) (hT : Tab W) => (show Calls Tryd.prog 22 #[.agg (pkC (pkO p o x))] W (APost W (.int .i64 (if right4 p lo ld.length = true then ((20 + lo.length : Nat) : Int) else 0))) from Head4_any (pkO p o x) lo ld W hP hT hl))
  have H2 := hid (fun W (hP : Pin W p lo ld) => r5head_any p lo ld W hP hl)
  have YF : Byt (lo ++ [165, 166]) := h.oR.byt.append (by intro x hx; simp at hx; omega)
  have YG : Byt (ld ++ [167, 168]) := h.xR.byt.append (by intro x hx; simp at hx; omega)
  have SB := hid (fun W v u (m : List Int) (h1 : Rb W v m) (h2 : Rb W u m) => (show Calls Tryd.prog 16 #[v, u] W (SameP W true) from by have := sameB_any v u m m W h1 h2; rwa [decide_eq_true rfl] at this))
  unfold LentPost at LE
  unfold B6Post at B1 B2
  generalize (if right4 p lo ld.length = true then ((20 + lo.length : Nat) : Int) else 0) = hd at *
  generalize (if right4 p lo ld.length = true then b4L p lo ld else []) = bl at *
  generalize (if right4 p lo ld.length = true then (0 : Int) else 1) = E at *
  generalize right4 p lo ld.length = r at *
  have P := hid (fun en w' (h1 : en = .returned (.bool true)) (h2 : Sp w w' []) => show APost w (.bool true) en w' from ⟨h1, h2.bel⟩)
  have S : Hid (Sp w (w.alloc (.cells (pkC p) 30)) [.blk w.heap.size (pkC p) 30]) := hid (Sp.in1 ..)
  have Q1 : ∀ o x, (pkO p o x).sB.length = 16 := fun _ _ => L1
  have Q2 : ∀ o x, (pkO p o x).dB.length = 16 := fun _ _ => L2
  replace Q1 := hid Q1
  replace Q2 := hid Q2
  clear h hT hl
  go_enter Tryd.func4, Tryd.ntmps4
  go_upto_region 1 with fail
  generalize w.alloc (.cells (pkC p) 30) = w' at *
  generalize w.heap.size = b at *
  go_upto_region 6 with (first
    | go_skip
    | (((with_reducible show wpList _ _ _ (_ :: _) _ (World.alloc _ (.cells _ 30))); refine wpList_world fun w' hw2 => ?_; replace S := hid (show Sp _ _ (.blk _ (pkC pk0) 30 :: _) from S.out.alloc hw2); clear hw2))
    | ((with_reducible show wpList _ _ _ _ _ _); first
        | ((with_reducible show wpList _ _ _ (⟨_, .load 30 _, _, _, _, _⟩ :: _) _ _); first | (refine wpList_getW (by rfl) _ rfl S.out _ rfl 0 _ rfl (by first | rfl | assumption) (by first | rfl | assumption) ?_) | (refine wpList_getW (by rfl) _ rfl S.out _ rfl 0 _ rfl (Q1.out _ _) (Q2.out _ _) ?_) | (refine wpList_getW (by rfl) _ rfl S.out _ rfl 3 _ rfl (by first | rfl | assumption) (by first | rfl | assumption) ?_) | (refine wpList_getW (by rfl) _ rfl S.out _ rfl 4 _ rfl (by first | rfl | assumption) (by first | rfl | assumption) ?_))
        | ((with_reducible show wpList _ _ _ (⟨_, .store _ _ _, _, _, _, _⟩ :: _) _ _); refine wpList_putW (by rfl) _ _ rfl rfl S.out _ rfl 0 _ rfl _ rfl (Q1.out _ _) (Q2.out _ _) (by first | rfl | assumption) (by first | rfl | assumption) rfl rfl ?_; intro w' hS; simp only [List.set] at hS; replace S := hid hS; clear hS))
    | (go_at_call 11; refine (AL.out _ (TB.out.below S.out.bel)).mono ?_; rintro en w' ⟨rfl, hb⟩; replace S := hid (S.out.keep hb); clear hb)
    | (go_at_call 17; refine (LE.out _ (PI.out.below S.out.bel)).mono ?_; rintro en w' ⟨so, co, sx, cx, rfl, hS⟩; replace hS := S.out.call hS; simp only [List.cons_append, List.nil_append] at hS; replace S := hid hS; clear hS)
    | (go_at_call 18; refine (B1.out _ _ _ (PN.out _ _ _ _ _ (S.out.rb 2 rfl YF) (S.out.rb 1 rfl YG)) (TB.out.below S.out.bel)).mono ?_; rintro en w' ⟨v1, rfl, ho, hb⟩; replace hS := Sp.ofOwn ho hb; clear ho hb; replace hS := S.out.call hS; simp only [List.cons_append, List.nil_append] at hS; replace S := hid hS; clear hS)
    | (go_at_call 19; refine (B2.out _ (PI.out.below S.out.bel)).mono ?_; rintro en w' ⟨v2, rfl, ho, hb⟩; replace hS := Sp.ofOwn ho hb; clear ho hb; replace hS := S.out.call hS; simp only [List.cons_append, List.nil_append] at hS; replace S := hid hS; clear hS))
  refine wp_region_canon ((0, false) :: (1, false) :: (2, true) :: (3, false) :: (4, false) :: (5, false) :: (6, false) :: (7, false) :: (8, false) :: (9, false) :: (11, false) :: (10, true) :: (12, true) :: (13, false) :: (14, false) :: (15, false) :: (16, false) :: (18, false) :: (17, true) :: (19, true) :: (20, false) :: (21, false) :: (22, false) :: (23, false) :: (24, false) :: (25, true) :: (26, false) :: (27, false) :: []) (fun W => Below w'.heap.size w' W) (by kernel_rfl) (by kernel_rfl) (fun c a d v w h => by cases d <;> exact h) ?_ ?_
  · exact (Same.drew _).below _
  simp only [pick, List.getElem?_cons_succ, List.getElem?_cons_zero]
  have B0 := hid ((Same.drew w').below w'.heap.size)
  cases r
  all_goals (
  (repeat (first | (refine wpD_weak (by rfl) ?_; apply Exists.intro; refine ⟨fun wS hS => ?_, ?_⟩; (focus (go_simp; (try with_reducible rfl); done)); simp only [Act.put, List.setIfInBounds_toArray, List.set_cons_zero, List.set_cons_succ]) | (refine wpD_pass (by rfl) ?_; simp only [Act.put, List.setIfInBounds_toArray, List.set_cons_zero, List.set_cons_succ])))
  (refine wpD_strong (by rfl) (fun K hK => ?_); go_simp)
  refine (SB.out _ _ _ bl ((S.out.keep B0.out).rb 1 rfl hyb) ((S.out.keep B0.out).rb 0 rfl hyb)).mono ?_
  rintro en wk ⟨rfl, rfl⟩
  (refine hK _ _ (by exact B0.out) ?_; clear hK K; (try simp only [Act.put, List.setIfInBounds_toArray, List.set_cons_zero, List.set_cons_succ]))
  (repeat (first | (refine wpD_weak (by rfl) ?_; apply Exists.intro; refine ⟨fun wS hS => ?_, ?_⟩; (focus (go_simp; (try with_reducible rfl); done)); simp only [Act.put, List.setIfInBounds_toArray, List.set_cons_zero, List.set_cons_succ]) | (refine wpD_pass (by rfl) ?_; simp only [Act.put, List.setIfInBounds_toArray, List.set_cons_zero, List.set_cons_succ])))
  refine wpD_load_pk (by rfl) _ rfl _ _ rfl (fun _ hS => (S.out.keep hS).pk 2 rfl) (Q1.out _ _) (Q2.out _ _) ?_; (try simp only [Act.put, List.setIfInBounds_toArray, List.set_cons_zero, List.set_cons_succ])
  (repeat (first | (refine wpD_weak (by rfl) ?_; apply Exists.intro; refine ⟨fun wS hS => ?_, ?_⟩; (focus (go_simp; (try with_reducible rfl); done)); simp only [Act.put, List.setIfInBounds_toArray, List.set_cons_zero, List.set_cons_succ]) | (refine wpD_pass (by rfl) ?_; simp only [Act.put, List.setIfInBounds_toArray, List.set_cons_zero, List.set_cons_succ])))
  refine wpD_load_pk (by rfl) _ rfl _ _ rfl (fun _ hS => (S.out.keep hS).pk 5 rfl) L1 L2 ?_; (try simp only [Act.put, List.setIfInBounds_toArray, List.set_cons_zero, List.set_cons_succ])
  (refine wpD_strong (by rfl) (fun K hK => ?_); go_simp)
  refine (R1.out _ _ _ (PN.out _ _ _ _ _ ((S.out.keep B0.out).rb 4 rfl YF) ((S.out.keep B0.out).rb 3 rfl YG)) (TB.out.below (S.out.keep B0.out).bel)).mono ?_
  rintro en wk ⟨rfl, hb⟩
  replace B0 := hid (B0.out.trans (hb.mono B0.out.size)); clear hb
  (refine hK _ _ (by exact B0.out) ?_; clear hK K; (try simp only [Act.put, List.setIfInBounds_toArray, List.set_cons_zero, List.set_cons_succ]))
  (refine wpD_strong (by rfl) (fun K hK => ?_); go_simp)
  refine (R2.out _ (PI.out.below (S.out.keep B0.out).bel)).mono ?_
  rintro en wk ⟨rfl, hb⟩
  replace B0 := hid (B0.out.trans (hb.mono B0.out.size)); clear hb
  (refine hK _ _ (by exact B0.out) ?_; clear hK K; (try simp only [Act.put, List.setIfInBounds_toArray, List.set_cons_zero, List.set_cons_succ]))
  (repeat (first | (refine wpD_weak (by rfl) ?_; apply Exists.intro; refine ⟨fun wS hS => ?_, ?_⟩; (focus (go_simp; (try with_reducible rfl); done)); simp only [Act.put, List.setIfInBounds_toArray, List.set_cons_zero, List.set_cons_succ]) | (refine wpD_pass (by rfl) ?_; simp only [Act.put, List.setIfInBounds_toArray, List.set_cons_zero, List.set_cons_succ])))
  refine wpD_load_pk (by rfl) _ rfl _ _ rfl (fun _ hS => (S.out.keep hS).pk 2 rfl) (Q1.out _ _) (Q2.out _ _) ?_; (try simp only [Act.put, List.setIfInBounds_toArray, List.set_cons_zero, List.set_cons_succ])
  (repeat (first | (refine wpD_weak (by rfl) ?_; apply Exists.intro; refine ⟨fun wS hS => ?_, ?_⟩; (focus (go_simp; (try with_reducible rfl); done)); simp only [Act.put, List.setIfInBounds_toArray, List.set_cons_zero, List.set_cons_succ]) | (refine wpD_pass (by rfl) ?_; simp only [Act.put, List.setIfInBounds_toArray, List.set_cons_zero, List.set_cons_succ])))
  refine wpD_load_pk (by rfl) _ rfl _ _ rfl (fun _ hS => (S.out.keep hS).pk 5 rfl) L1 L2 ?_; (try simp only [Act.put, List.setIfInBounds_toArray, List.set_cons_zero, List.set_cons_succ])
  (refine wpD_strong (by rfl) (fun K hK => ?_); go_simp)
  refine (H1.out _ _ _ (PN.out _ _ _ _ _ ((S.out.keep B0.out).rb 4 rfl YF) ((S.out.keep B0.out).rb 3 rfl YG)) (TB.out.below (S.out.keep B0.out).bel)).mono ?_
  rintro en wk ⟨rfl, hb⟩
  replace B0 := hid (B0.out.trans (hb.mono B0.out.size)); clear hb
  (refine hK _ _ (by exact B0.out) ?_; clear hK K; (try simp only [Act.put, List.setIfInBounds_toArray, List.set_cons_zero, List.set_cons_succ]))
  (refine wpD_strong (by rfl) (fun K hK => ?_); go_simp)
  refine (H2.out _ (PI.out.below (S.out.keep B0.out).bel)).mono ?_
  rintro en wk ⟨rfl, hb⟩
  replace B0 := hid (B0.out.trans (hb.mono B0.out.size)); clear hb
  (refine hK _ _ (by exact B0.out) ?_; clear hK K; (try simp only [Act.put, List.setIfInBounds_toArray, List.set_cons_zero, List.set_cons_succ]))
  (repeat (first | (refine wpD_weak (by rfl) ?_; apply Exists.intro; refine ⟨fun wS hS => ?_, ?_⟩; (focus (go_simp; (try with_reducible rfl); done)); simp only [Act.put, List.setIfInBounds_toArray, List.set_cons_zero, List.set_cons_succ]) | (refine wpD_pass (by rfl) ?_; simp only [Act.put, List.setIfInBounds_toArray, List.set_cons_zero, List.set_cons_succ])))
  refine wpD_load_pk (by rfl) _ rfl _ _ rfl (fun _ hS => (S.out.keep hS).pk 2 rfl) (Q1.out _ _) (Q2.out _ _) ?_; (try simp only [Act.put, List.setIfInBounds_toArray, List.set_cons_zero, List.set_cons_succ])
  refine wpD_load_pk (by rfl) _ rfl _ _ rfl (fun _ hS => (S.out.keep hS).pk 5 rfl) L1 L2 ?_; (try simp only [Act.put, List.setIfInBounds_toArray, List.set_cons_zero, List.set_cons_succ])
  (refine wpD_strong (by rfl) (fun K hK => ?_); go_simp)
  refine (KE.out _ _ _ _ _ (PI.out.below (S.out.keep B0.out).bel) ((S.out.keep B0.out).rb 4 rfl YF) ((S.out.keep B0.out).rb 3 rfl YG)).mono ?_
  rintro en wk ⟨rfl, hb⟩
  replace B0 := hid (B0.out.trans (hb.mono B0.out.size)); clear hb
  (refine hK _ _ (by exact B0.out) ?_; clear hK K; (try simp only [Act.put, List.setIfInBounds_toArray, List.set_cons_zero, List.set_cons_succ]))
  (repeat (first | (refine wpD_weak (by rfl) ?_; apply Exists.intro; refine ⟨fun wS hS => ?_, ?_⟩; (focus (go_simp; (try with_reducible rfl); done)); simp only [Act.put, List.setIfInBounds_toArray, List.set_cons_zero, List.set_cons_succ]) | (refine wpD_pass (by rfl) ?_; simp only [Act.put, List.setIfInBounds_toArray, List.set_cons_zero, List.set_cons_succ])))
  refine wpD_nil ?_
  replace S := hid (S.out.keep B0.out)
  clear B0
  go_wp2_with fail
  go_ret
  exact P.out _ _ rfl S.out.nil)
end Go.Proofs.YtaecfcaeopmiaaaDoor
