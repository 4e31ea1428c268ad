/-
  The statement Ip6Lays, walked.
-/
import Derived.Test.YthbdnmmmibdgpaaAlive6
import Derived.Test.YthbdnmmmibdgpaaRef6B
import Derived.Test.YthbdnmmmibdgpaaOpenP
namespace Go.Proofs.Ythbdnmmmibdgpaa
open Go.RowKit

/-- bytes that a call tells, with a number -/
def BB (e : Int) (n : Nat) (l : List Int) (w : World) (en : Ending) (w' : World) : Prop :=
  ∃ a c, en = .returned (.tuple #[.slice a n c, .int .i64 e]) ∧ Sp w w' [.row (.slice a n c) 5 1 n (bts l)]
theorem B6Post.bb {e : Int} {l : List Int} {n : Nat} {w w' : World} {en : Ending} (h : B6Post e l w en w') (hn : l.length = n) : BB e n l w en w' := by
  obtain ⟨v, he, ho, hb⟩ := h
  subst hn
  obtain ⟨a, c, rfl, _⟩ := own_shape ho
  exact ⟨a, c, he, Sp.ofOwn ho hb⟩
theorem own_pin {w w' : World} {p : Pk} {lo ld : List Int} {so : Option Go.Addr} {co : Nat} {sx : Option Go.Addr} {cx : Nat} (hp : IsPk p) (b1 : Byt lo) (b2 : Byt ld)
    (S : Sp w w' [.row (.slice sx ld.length cx) 5 1 ld.length (bts ld), .row (.slice so lo.length co) 5 1 lo.length (bts lo)]) : Pin w' { p with ov := .slice so lo.length co, xv := .slice sx ld.length cx } lo ld :=
  ⟨⟨hp.src, hp.dst, hp.id0, hp.id1, rfl, rfl⟩, S.rb 1 rfl b1, S.rb 0 rfl b2⟩
theorem b6L_len {p : Pk} {xs : List Int} (h1 : p.sB.length = 16) (h2 : p.dB.length = 16) : ((b6L p xs).length : Int) = head6 p + xs.length := by
  unfold b6L head6
  cases p.Frag <;> simp [be_length, h1, h2] <;> omega
theorem b6L_byt {p : Pk} {xs : List Int} (hp : IsPk p) (hx : Byt xs) : Byt (b6L p xs) := by
  unfold b6L
  refine Byt.append (Byt.append (Byt.append (Byt.append (Byt.append (Byt.append (Byt.append ?_ ?_) ?_) ?_) ?_) ?_) ?_) hx
  all_goals first
    | exact be_byt _ _
    | exact hp.src.byt
    | exact hp.dst.byt
    | (split
       · exact Byt.append (Byt.append (Byt.append (be_byt _ _) (be_byt _ _)) (be_byt _ _)) (be_byt _ _)
       · exact Byt.nil)
/-- Build, told in one form -/
theorem bld6 (p q : Pk) (lo ld : List Int) (w : World) (h : Pin w q lo ld) (e1 : right6 q lo.length ld.length = right6 p lo.length ld.length) (e2 : b6L q ld = b6L p ld) :
    Calls Try.prog 11 #[.agg (pkC q)] w (BB (if right6 p lo.length ld.length = true then 0 else 1) (if right6 p lo.length ld.length = true then b6L p ld else []).length (if right6 p lo.length ld.length = true then b6L p ld else []) w) := by
  cases hr : right6 p lo.length ld.length
  · exact (build6_no q lo ld w h (by rw [e1, hr])).mono fun _ _ h => h.bb rfl
  · rw [← e2]
    exact (build6_yes q lo ld w h (by rw [e1, hr])).mono fun _ _ h => h.bb rfl
theorem rbld6 (p : Pk) (lo ld : List Int) (w : World) (h : Pin w p lo ld) (hl : ld.length ≤ 140737488355328) :
    Calls Try.prog 13 #[.agg (pkC p)] w (BB (if right6 p lo.length ld.length = true then 0 else 1) (if right6 p lo.length ld.length = true then b6L p ld else []).length (if right6 p lo.length ld.length = true then b6L p ld else []) w) :=
  (rBuild6_any p lo ld w h hl).mono fun _ _ h => h.bb rfl
set_option maxHeartbeats 4000000 in
set_option maxRecDepth 20000 in
theorem ip6Lays_any (p : Pk) (lo ld : List Int) (w : World) (h : PkIn w p lo ld) : Calls Try.prog 3 #[.agg (pkC p)] w (APost w (.bool true)) := by
  have L1 := h.pin.pk.src.len
  have L2 := h.pin.pk.dst.len
  have HP := hid h.pin.pk
  have Y1 := hid h.pin.oR.byt
  have Y2 := hid h.pin.xR.byt
  have PI := hid h.pin
  have LB := hid (And.intro h.lo h.ld)
  have SA := hid (fun W v u (h1 : Rb W v (if right6 p lo.length ld.length = true then b6L p ld else [])) (h2 : Rb W u (if right6 p lo.length ld.length = true then b6L p ld else [])) => (show Calls Try.prog 14 #[v, u] W (SameP W true) from by have := same6_any v u _ _ W h1 h2; rwa [decide_eq_true rfl] at this))
  have YL : Byt (if right6 p lo.length ld.length = true then b6L p ld else []) := by
    split
    · exact b6L_byt HP.out Y2.out
    · exact Byt.nil
  have BL := hid (fun W q hq e1 e2 => bld6 p q lo ld W hq e1 e2)
  have RB := hid (fun W hq => rbld6 p lo ld W hq LB.out.2)
  have LN : Hid (right6 p lo.length ld.length = true → (((if right6 p lo.length ld.length = true then b6L p ld else []).length : Nat) : Int) = head6 p + ld.length ∧ head6 p + ld.length ≤ 65575 ∧ 0 ≤ head6 p) := hid (fun hr => by
    rw [if_pos hr, b6L_len L1 L2]
    obtain ⟨_, _, _, _, _, t5, t6, t7, t8⟩ := right6_parts hr
    refine ⟨rfl, ?_, by unfold head6; split <;> omega⟩
    unfold head6
    cases hf : p.Frag
    · rw [if_neg (by decide)]; omega
    · rw [if_pos rfl]; have := (t7 hf).1; omega)
  have RG := hid (fun W q (hq : Pin W q lo ld) (e1 : right6 q lo.length ld.length = right6 p lo.length ld.length) => (show Calls Try.prog 15 #[.agg (pkC q)] W (APost W (.bool (right6 p lo.length ld.length))) from by rw [← e1]; exact right6_any q lo ld W hq))
  have RR := hid (fun W hq => rRight6_any p lo ld W hq LB.out.2)
  have HG := hid (fun W q (hq : Pin W q lo ld) (e1 : right6 q lo.length ld.length = right6 p lo.length ld.length) (e2 : head6 q = head6 p) => (show Calls Try.prog 17 #[.agg (pkC q)] W (APost W (.int .i64 (if right6 p lo.length ld.length = true then head6 p else 0))) from by rw [← e1, ← e2]; exact Head6_any q lo ld W hq))
  have HR := hid (fun W hq => rHead6_any p lo ld W hq LB.out.2)
  have OW := hid (fun W (hq : Pin W p lo ld) => own6_any p lo ld W hq LB.out)
  generalize hbl : (if right6 p lo.length ld.length = true then b6L p ld else []) = bl at *
  have RE := hid (fun (so : Option Go.Addr) (co : Nat) (sx : Option Go.Addr) (cx : Nat) => (⟨rfl, rfl, rfl⟩ : right6 { p with ov := .slice so lo.length co, xv := .slice sx ld.length cx } lo.length ld.length = right6 p lo.length ld.length ∧ b6L { p with ov := .slice so lo.length co, xv := .slice sx ld.length cx } ld = b6L p ld ∧ head6 { p with ov := .slice so lo.length co, xv := .slice sx ld.length cx } = head6 p))
  have P := hid (fun en w' (h1 : en = .returned (.bool true)) (h2 : Sp w w' []) => show APost w (.bool true) en w' from ⟨h1, h2.bel⟩)
  have S : Hid (Sp w (w.alloc (.cells (pkC p) 28)) [.blk w.heap.size (pkC p) 28]) := hid (Sp.in1 ..)
  clear h hbl
  cases hrb : right6 p lo.length ld.length
  all_goals (
  rw [hrb] at BL RB RG RR HG HR LN
  simp only [Bool.false_eq_true, if_false, if_true, false_implies, true_implies] at BL RB RG RR HG HR LN
  go_enter Try.func3, Try.ntmps3
  go_upto_region 1 with fail
  generalize w.alloc (.cells (pkC p) 28) = w' at *
  generalize w.heap.size = b at *
  go_wp2_with (first
    | go_skip
    | ((with_reducible show Code.wp _ (Code.region 6 _ true) _ _ _)
       refine wp_region_canon ((0, false) :: (1, false) :: (2, false) :: (3, false) :: (4, false) :: (5, false) :: (6, true) :: (7, false) :: (8, false) :: (9, false) :: (10, false) :: (13, false) :: (11, true) :: (12, true) :: (14, true) :: (15, false) :: (16, false) :: (17, false) :: (18, false) :: (21, false) :: (19, true) :: (20, true) :: (22, true) :: (23, false) :: (24, false) :: []) (fun W => Below w'.heap.size w' W) (by kernel_rfl) (by kernel_rfl) (fun c a d v w h => by cases d <;> exact h) ?_ ?_
       · exact (Same.drew _).below _
       simp only [pick, List.getElem?_cons_succ, List.getElem?_cons_zero]
       have B0 := hid ((Same.drew w').below w'.heap.size)
       (repeat (first | (refine wpD_weak (by rfl) ?_; apply Exists.intro; refine ⟨fun wS hS => ?_, ?_⟩; (focus (go_simp; (try with_reducible rfl); done)); simp only [Act.put, List.setIfInBounds_toArray, List.set_cons_zero, List.set_cons_succ]) | (refine wpD_pass (by rfl) ?_; simp only [Act.put, List.setIfInBounds_toArray, List.set_cons_zero, List.set_cons_succ])))
       (refine wpD_strong (by rfl) (fun K hK => ?_); go_simp)
       refine (SA.out _ _ _ ((S.out.keep B0.out).rb 1 rfl YL) ((S.out.keep B0.out).rb 0 rfl YL)).mono ?_
       rintro en wk ⟨rfl, rfl⟩
       (refine hK _ _ (by exact B0.out) ?_; clear hK K; (try simp only [Act.put, List.setIfInBounds_toArray, List.set_cons_zero, List.set_cons_succ]))
       (repeat (first | (refine wpD_weak (by rfl) ?_; apply Exists.intro; refine ⟨fun wS hS => ?_, ?_⟩; (focus (go_simp; (try with_reducible rfl); done)); simp only [Act.put, List.setIfInBounds_toArray, List.set_cons_zero, List.set_cons_succ]) | (refine wpD_pass (by rfl) ?_; simp only [Act.put, List.setIfInBounds_toArray, List.set_cons_zero, List.set_cons_succ])))
       refine wpD_load_pk (by rfl) _ rfl _ _ rfl (fun _ hS => (S.out.keep hS).pk 4 rfl) L1 L2 ?_
       (try simp only [Act.put, List.setIfInBounds_toArray, List.set_cons_zero, List.set_cons_succ])
       (repeat (first | (refine wpD_weak (by rfl) ?_; apply Exists.intro; refine ⟨fun wS hS => ?_, ?_⟩; (focus (go_simp; (try with_reducible rfl); done)); simp only [Act.put, List.setIfInBounds_toArray, List.set_cons_zero, List.set_cons_succ]) | (refine wpD_pass (by rfl) ?_; simp only [Act.put, List.setIfInBounds_toArray, List.set_cons_zero, List.set_cons_succ])))
       refine wpD_load_pk (by rfl) _ rfl _ _ rfl (fun _ hS => (S.out.keep hS).pk 4 rfl) L1 L2 ?_
       (try simp only [Act.put, List.setIfInBounds_toArray, List.set_cons_zero, List.set_cons_succ])
       (refine wpD_strong (by rfl) (fun K hK => ?_); go_simp)
       refine (OW.out _ (PI.out.below (S.out.keep B0.out).bel)).mono ?_
       rintro en wk ⟨so, co, sx, cx, rfl, hS2⟩
       have hp := own_pin HP.out Y1.out Y2.out hS2
       have hb := hS2.bel
       clear hS2
       replace B0 := hid (B0.out.trans (hb.mono B0.out.size)); clear hb
       (refine hK _ _ (by exact B0.out) ?_; clear hK K; (try simp only [Act.put, List.setIfInBounds_toArray, List.set_cons_zero, List.set_cons_succ]))
       (refine wpD_strong (by rfl) (fun K hK => ?_); go_simp)
       refine (RG.out _ _ hp hrb).mono ?_
       clear hp
       rintro en wk ⟨rfl, hb⟩
       replace B0 := hid (B0.out.trans (hb.mono B0.out.size)); clear hb
       (refine hK _ _ (by exact B0.out) ?_; clear hK K; (try simp only [Act.put, List.setIfInBounds_toArray, List.set_cons_zero, List.set_cons_succ]))
       (refine wpD_strong (by rfl) (fun K hK => ?_); go_simp)
       refine (RR.out _ (PI.out.below (S.out.keep B0.out).bel)).mono ?_
       rintro en wk ⟨rfl, hb⟩
       replace B0 := hid (B0.out.trans (hb.mono B0.out.size)); clear hb
       (refine hK _ _ (by exact B0.out) ?_; clear hK K; (try simp only [Act.put, List.setIfInBounds_toArray, List.set_cons_zero, List.set_cons_succ]))
       (repeat (first | (refine wpD_weak (by rfl) ?_; apply Exists.intro; refine ⟨fun wS hS => ?_, ?_⟩; (focus (go_simp; (try with_reducible rfl); done)); simp only [Act.put, List.setIfInBounds_toArray, List.set_cons_zero, List.set_cons_succ]) | (refine wpD_pass (by rfl) ?_; simp only [Act.put, List.setIfInBounds_toArray, List.set_cons_zero, List.set_cons_succ])))
       refine wpD_load_pk (by rfl) _ rfl _ _ rfl (fun _ hS => (S.out.keep hS).pk 4 rfl) L1 L2 ?_
       (try simp only [Act.put, List.setIfInBounds_toArray, List.set_cons_zero, List.set_cons_succ])
       (repeat (first | (refine wpD_weak (by rfl) ?_; apply Exists.intro; refine ⟨fun wS hS => ?_, ?_⟩; (focus (go_simp; (try with_reducible rfl); done)); simp only [Act.put, List.setIfInBounds_toArray, List.set_cons_zero, List.set_cons_succ]) | (refine wpD_pass (by rfl) ?_; simp only [Act.put, List.setIfInBounds_toArray, List.set_cons_zero, List.set_cons_succ])))
       refine wpD_load_pk (by rfl) _ rfl _ _ rfl (fun _ hS => (S.out.keep hS).pk 4 rfl) L1 L2 ?_
       (try simp only [Act.put, List.setIfInBounds_toArray, List.set_cons_zero, List.set_cons_succ])
       (refine wpD_strong (by rfl) (fun K hK => ?_); go_simp)
       refine (OW.out _ (PI.out.below (S.out.keep B0.out).bel)).mono ?_
       rintro en wk ⟨so, co, sx, cx, rfl, hS2⟩
       have hp := own_pin HP.out Y1.out Y2.out hS2
       have hb := hS2.bel
       clear hS2
       replace B0 := hid (B0.out.trans (hb.mono B0.out.size)); clear hb
       (refine hK _ _ (by exact B0.out) ?_; clear hK K; (try simp only [Act.put, List.setIfInBounds_toArray, List.set_cons_zero, List.set_cons_succ]))
       (refine wpD_strong (by rfl) (fun K hK => ?_); go_simp)
       refine (HG.out _ _ hp hrb rfl).mono ?_
       clear hp
       rintro en wk ⟨rfl, hb⟩
       replace B0 := hid (B0.out.trans (hb.mono B0.out.size)); clear hb
       (refine hK _ _ (by exact B0.out) ?_; clear hK K; (try simp only [Act.put, List.setIfInBounds_toArray, List.set_cons_zero, List.set_cons_succ]))
       (refine wpD_strong (by rfl) (fun K hK => ?_); go_simp)
       refine (HR.out _ (PI.out.below (S.out.keep B0.out).bel)).mono ?_
       rintro en wk ⟨rfl, hb⟩
       replace B0 := hid (B0.out.trans (hb.mono B0.out.size)); clear hb
       (refine hK _ _ (by exact B0.out) ?_; clear hK K; (try simp only [Act.put, List.setIfInBounds_toArray, List.set_cons_zero, List.set_cons_succ]))
       (repeat (first | (refine wpD_weak (by rfl) ?_; apply Exists.intro; refine ⟨fun wS hS => ?_, ?_⟩; (focus (go_simp; (try with_reducible rfl); done)); simp only [Act.put, List.setIfInBounds_toArray, List.set_cons_zero, List.set_cons_succ]) | (refine wpD_pass (by rfl) ?_; simp only [Act.put, List.setIfInBounds_toArray, List.set_cons_zero, List.set_cons_succ])))
       refine wpD_nil ?_
       replace S := hid (S.out.keep B0.out)
       clear B0)
    | ((with_reducible show Code.wp _ (Code.region 8 _ true) _ _ _)
       (
       obtain ⟨n1, n2, n3⟩ := LN.out
       have s1 : IntKind.i64.wrap (head6 p + (ld.length : Int)) = head6 p + (ld.length : Int) := IntWalk.i64_in _ (by omega)
       obtain ⟨xa, xc, ex, _⟩ := PI.out.xR.open
       refine wp_region_canon ((0, false) :: (1, false) :: (2, false) :: (3, false) :: (4, false) :: (5, false) :: (8, false) :: (9, false) :: (10, false) :: (6, true) :: (7, true) :: (11, false) :: (12, false) :: (13, false) :: (14, false) :: (15, false) :: (16, false) :: (17, false) :: (18, false) :: (19, false) :: []) (fun W => Below wk.heap.size wk W) (by kernel_rfl) (by kernel_rfl) (fun c a d v w h => by cases d <;> exact h) ?_ ?_
       · exact (Same.drew _).below _
       simp only [pick, List.getElem?_cons_succ, List.getElem?_cons_zero]
       have B0 := hid ((Same.drew wk).below wk.heap.size)
       (repeat (first | (refine wpD_weak (by rfl) ?_; apply Exists.intro; refine ⟨fun wS hS => ?_, ?_⟩; (focus (go_simp; (try with_reducible rfl); done)); simp only [Act.put, List.setIfInBounds_toArray, List.set_cons_zero, List.set_cons_succ]) | (refine wpD_pass (by rfl) ?_; simp only [Act.put, List.setIfInBounds_toArray, List.set_cons_zero, List.set_cons_succ])))
       refine wpD_load_pk (by rfl) _ rfl _ _ rfl (fun _ hS => (S.out.keep hS).pk 4 rfl) L1 L2 ?_
       (try simp only [Act.put, List.setIfInBounds_toArray, List.set_cons_zero, List.set_cons_succ])
       (repeat (first | (refine wpD_weak (by rfl) ?_; apply Exists.intro; refine ⟨fun wS hS => ?_, ?_⟩; (focus (have c45 := (((S.out.keep hS).pk 4 rfl).cells L1 L2).c45; rw [ex] at c45; go_simp; (try with_reducible rfl); done)); simp only [Act.put, List.setIfInBounds_toArray, List.set_cons_zero, List.set_cons_succ]) | (refine wpD_pass (by rfl) ?_; simp only [Act.put, List.setIfInBounds_toArray, List.set_cons_zero, List.set_cons_succ])))
       (refine wpD_strong (by rfl) (fun K hK => ?_); go_simp)
       refine (OW.out _ (PI.out.below (S.out.keep B0.out).bel)).mono ?_
       rintro en wk ⟨so, co, sx, cx, rfl, hS2⟩
       have hp := own_pin HP.out Y1.out Y2.out hS2
       have hb := hS2.bel
       clear hS2
       replace B0 := hid (B0.out.trans (hb.mono B0.out.size)); clear hb
       (refine hK _ _ (by exact B0.out) ?_; clear hK K; (try simp only [Act.put, List.setIfInBounds_toArray, List.set_cons_zero, List.set_cons_succ]))
       (refine wpD_strong (by rfl) (fun K hK => ?_); go_simp)
       refine (HG.out _ _ hp hrb rfl).mono ?_
       clear hp
       rintro en wk ⟨rfl, hb⟩
       replace B0 := hid (B0.out.trans (hb.mono B0.out.size)); clear hb
       (refine hK _ _ (by exact B0.out) ?_; clear hK K; (try simp only [Act.put, List.setIfInBounds_toArray, List.set_cons_zero, List.set_cons_succ]))
       (repeat (first | (refine wpD_weak (by rfl) ?_; apply Exists.intro; refine ⟨fun wS hS => ?_, ?_⟩; (focus (go_simp; (try with_reducible rfl); done)); simp only [Act.put, List.setIfInBounds_toArray, List.set_cons_zero, List.set_cons_succ]) | (refine wpD_pass (by rfl) ?_; simp only [Act.put, List.setIfInBounds_toArray, List.set_cons_zero, List.set_cons_succ])))
       refine wpD_nil ?_
       replace S := hid (S.out.keep B0.out)
       clear B0))
    | ((with_reducible show Code.wp _ (Code.region 8 _ true) _ _ _)
       refine wp_region_canon ((0, false) :: (1, false) :: (2, false) :: (3, false) :: (4, false) :: (5, false) :: (8, false) :: (9, false) :: (10, false) :: (6, true) :: (7, true) :: (11, false) :: (12, false) :: (13, false) :: (14, false) :: (15, false) :: (16, false) :: (17, false) :: (18, false) :: (19, false) :: []) (fun W => Below wk.heap.size wk W) (by kernel_rfl) (by kernel_rfl) (fun c a d v w h => by cases d <;> exact h) ?_ ?_
       · exact (Same.drew _).below _
       simp only [pick, List.getElem?_cons_succ, List.getElem?_cons_zero]
       have B0 := (Same.drew wk).below wk.heap.size
       (repeat (first | (refine wpD_weak (by rfl) ?_; apply Exists.intro; refine ⟨fun wS hS => ?_, ?_⟩; (focus (go_simp; (try with_reducible rfl); done)); simp only [Act.put, List.setIfInBounds_toArray, List.set_cons_zero, List.set_cons_succ]) | (refine wpD_pass (by rfl) ?_; simp only [Act.put, List.setIfInBounds_toArray, List.set_cons_zero, List.set_cons_succ])))
       (refine wpD_spass (by rfl) (by assumption) ?_; simp only [Act.put, List.setIfInBounds_toArray, List.set_cons_zero, List.set_cons_succ])
       (refine wpD_spass (by rfl) (by assumption) ?_; simp only [Act.put, List.setIfInBounds_toArray, List.set_cons_zero, List.set_cons_succ])
       (repeat (first | (refine wpD_weak (by rfl) ?_; apply Exists.intro; refine ⟨fun wS hS => ?_, ?_⟩; (focus (go_simp; (try with_reducible rfl); done)); simp only [Act.put, List.setIfInBounds_toArray, List.set_cons_zero, List.set_cons_succ]) | (refine wpD_pass (by rfl) ?_; simp only [Act.put, List.setIfInBounds_toArray, List.set_cons_zero, List.set_cons_succ])))
       refine wpD_nil ?_
       replace S := hid (S.out.keep B0)
       clear B0)
    | ((with_reducible show wpList _ _ _ _ _ _); first | ((with_reducible show wpList _ _ _ (⟨_, .load _ _, _, _, _, _⟩ :: _) _ _); first | (refine wpList_getW (by rfl) _ rfl S.out _ rfl 0 _ rfl (by first | rfl | assumption) (by first | rfl | assumption) ?_) | (refine wpList_getW (by rfl) _ rfl S.out _ rfl 1 _ rfl (by first | rfl | assumption) (by first | rfl | assumption) ?_) | (refine wpList_getW (by rfl) _ rfl S.out _ rfl 2 _ rfl (by first | rfl | assumption) (by first | rfl | assumption) ?_) | (refine wpList_getW (by rfl) _ rfl S.out _ rfl 3 _ rfl (by first | rfl | assumption) (by first | rfl | assumption) ?_) | (refine wpList_getW (by rfl) _ rfl S.out _ rfl 4 _ rfl (by first | rfl | assumption) (by first | rfl | assumption) ?_) | (refine wpList_getW (by rfl) _ rfl S.out _ rfl 5 _ rfl (by first | rfl | assumption) (by first | rfl | assumption) ?_)))
    | (go_at_call 10; refine (alive6_any _).mono ?_; rintro en w' ⟨rfl, hb⟩; replace S := hid (S.out.keep hb); clear hb)
    | (go_at_call 12; refine (OW.out _ (PI.out.below S.out.bel)).mono ?_; rintro en w' ⟨so, co, sx, cx, rfl, hS⟩; have P2 := hid (own_pin HP.out Y1.out Y2.out hS); replace hS := S.out.call hS; simp only [List.cons_append, List.nil_append] at hS; replace S := hid hS; clear hS)
    | (go_at_call 11; refine (BL.out _ _ P2.out hrb rfl).mono ?_; clear P2; rintro en w' ⟨ba, bc, rfl, hS⟩; replace hS := S.out.call hS; simp only [List.cons_append, List.nil_append] at hS; replace S := hid hS; clear hS)
    | (go_at_call 13; refine (RB.out _ (PI.out.below S.out.bel)).mono ?_; rintro en w' ⟨ra, rc, rfl, hS⟩; replace hS := S.out.call hS; simp only [List.cons_append, List.nil_append] at hS; replace S := hid hS; clear hS))
  all_goals

    go_ret
    exact P.out _ _ rfl S.out.nil
  )
end Go.Proofs.Ythbdnmmmibdgpaa
