/-
  The statements' own mended: a message made right.
-/
import Derived.Test.YtpggbbjhbklamaaIcV
import Derived.Test.YtpggbbjhbklamaaAnd
namespace Go.Proofs.Ytpggbbjhbklamaa
open Go.RowKit

def MPost (R : Int) (w : World) (en : Ending) (w' : World) : Prop :=
  ∃ V T C d n so co, en = .returned (.agg (msgC V T C R (.slice so n co))) ∧ Sp w w' [.row (.slice so n co) 5 1 n (bts d)] ∧ (V = 4 ∨ V = 6) ∧ (0 ≤ T ∧ T ≤ 255) ∧ (0 ≤ C ∧ C ≤ 255) ∧ Byt d ∧ d.length = n ∧ n ≤ 65507
theorem post_msg1 {fn : Func} {Q : Ending → World → Prop} {a : Act} {w : World} {p : Tmp} (h : fn.results = #[.cell p 28]) (hd : a.defers = []) (b : Nat) (cs : Array Value) (hp : a.tmps.getD p undef = .pointer (some ⟨b, 0, none⟩)) (hA : w.heap[b]? = some (.cells cs 28 (0, 0)))
    (hz : (Try.prog.info? 28).map (·.size) = some cs.size) (hR : Q (.returned (.agg cs)) w) : bodyPost Try.prog fn Q .ret a w :=
  bodyPost_ret (results_cell_row h a.tmps w b 28 cs (0, 0) _ hp hA Try.underlying28 rfl hz) hd hR
set_option maxHeartbeats 1000000 in
set_option maxRecDepth 20000 in
theorem mend8_any (V T C R : Int) (bv : Value) (l : List Int) (w : World) (hb : Rb w bv l) (hl : l.length ≤ 140737488355328) : Calls Try.prog 17 #[.agg (msgC V T C R bv)] w (MPost R w) := by
  have HB := hid hb
  have YB := hb.byt
  obtain ⟨ad, cd, rfl, _, hmd, _⟩ := hb.open
  unfold maxLen at hmd
  have OX := hid (fun W (hv : Rb W (.slice ad l.length cd) l) => ownB_any _ l W hv hl)
  have a1 := i64_and255 T
  have a2 := i64_and255 C
  have a3 : bits .and .i64 V 1 = V % 2 := i64_andlow V 1 1 (by decide) (by decide)
  have bT : 0 ≤ T % 256 ∧ T % 256 ≤ 255 := by omega
  have bC : 0 ≤ C % 256 ∧ C % 256 ≤ 255 := by omega
  have S : Hid (Sp w ((w.alloc (.cells (msgC V T C R (.slice ad l.length cd)) 28)).alloc (.cells msg0 28)) [.blk (w.heap.size + 1) msg0 28, .blk w.heap.size (msgC V T C R (.slice ad l.length cd)) 28]) := hid (Sp.in2 ..)
  clear hb
  unfold msg0 at *
  unfold msgC at S
  show Calls _ _ #[.agg #[.int .i64 V, .int .i64 T, .int .i64 C, .int .u32 R, .slice ad l.length cd]] w _
  go_enter Try.func17, Try.ntmps17
  go_upto_region 1 with fail
  generalize (w.alloc _).alloc _ = w' at *
  generalize w.heap.size = b at *
  go_cut [3] from 4 (fun v wc => ∃ b3 so co, v = .pointer (some ⟨b3, 0, none⟩) ∧ Sp w wc [.blk b3 (msgC 4 (T % 256) (C % 256) R (.slice so l.length co)) 28, .row (.slice so l.length co) 5 1 l.length (bts l), .blk (b + 1) #[.int .i64 0, .int .i64 0, .int .i64 0, .int .u32 0, .slice none 0 0] 28, .blk b #[.int .i64 V, .int .i64 T, .int .i64 C, .int .u32 R, .slice ad l.length cd] 28])
  case first =>
    refine wp_region_ord (.weak 0 (.weak 1 (.weak 2 (.weak 3 (.weak 4 (.weak 5 (.weak 6 (.weak 7 (.weak 8 (.weak 9 (.two 10 12 (.weak 11 (.strong 12 (.strong 13 (.done)))) (.strong 10 (.weak 11 (.strong 13 (.done))))))))))))))) (fun W => Sp w W [.blk b #[.int .i64 V, .int .i64 T, .int .i64 C, .int .u32 R, .slice ad l.length cd] 28]) (by kernel_rfl) (by kernel_rfl) (fun c a d v w h => by cases d <;> exact h) ?_ ?_
    · exact (S.out.same (Same.drew _)).sub (by repeat (first | exact List.Sublist.refl _ | exact List.nil_sublist _ | apply List.Sublist.cons_cons | apply List.Sublist.cons))
    replace S := hid (S.out.same (Same.drew w'))
    generalize w'.drew = w' at *
    simp only [Ord.pick, List.getElem?_cons_succ, List.getElem?_cons_zero]
    repeat' (first
      | ((with_reducible show wpE _ _ _ _ _ _ _); (first | (refine wpE_weak (by rfl) ?_; apply Exists.intro; refine ⟨fun wS hS => ?_, ?_⟩; (focus (have c1 := hS.cellC 0 rfl (msg_1 ..); have c2 := hS.cellC 0 rfl (msg_2 ..); have c3 := hS.cellC 0 rfl (msg_3 ..); have c4 := hS.cellC 0 rfl (msg_4 ..); go_simp; (try with_reducible rfl); done)); simp only [Act.put, List.setIfInBounds_toArray, List.set_cons_zero, List.set_cons_succ]) | (refine wpE_pass (by rfl) ?_; simp only [Act.put, List.setIfInBounds_toArray, List.set_cons_zero, List.set_cons_succ])))
      | ((with_reducible show wpE _ _ _ _ _ _ _); refine wpE_strongL (by rfl) ?_)
      | ((with_reducible show wpE _ _ _ _ _ _ _); refine wpE_twoL (by rfl) (by rfl) ?_ ?_)
      | ((with_reducible show wpList _ _ _ _ _ _); go_wp2_with (first
        | go_skip
        | ((with_reducible show wpList _ _ _ _ _ _); ((with_reducible show wpList _ _ _ (⟨_, .store _ _ _, _, _, _, _⟩ :: _) _ _); first | (refine wpList_putS (by rfl) _ _ _ rfl rfl S.out _ (msgC 4 (T % 256) (C % 256) R (.slice _ l.length _)) rfl rfl 0 _ _ rfl msg_info (by rfl) (msg_one rfl) ?_; intro w' hS; simp only [List.set] at hS; replace S := hid hS; clear hS) | (refine wpList_putS (by rfl) _ _ _ rfl rfl S.out _ (msgC 4 (T % 256) (C % 256) R (.slice _ l.length _)) rfl rfl 1 _ _ rfl msg_info (by rfl) (msg_one rfl) ?_; intro w' hS; simp only [List.set] at hS; replace S := hid hS; clear hS)))
        | (go_at_call 8; refine (OX.out _ (HB.out.below S.out.bel)).mono ?_; rintro en w' ⟨so, co, rfl, hS⟩; replace hS := S.out.call hS; simp only [List.cons_append, List.nil_append] at hS; replace S := hid hS; clear hS)))
      | ((with_reducible show qEnd _ _ _ _ (World.alloc _ _)); refine (fun (h : ∀ w2, w2 = World.alloc _ _ → qEnd _ _ .normal _ w2) => h _ rfl) ?_; intro w' hw2; replace S := hid (S.out.alloc hw2); clear hw2)
      | ((with_reducible show qEnd _ _ _ _ _); refine qEnd_done (S.out.sub (by repeat (first | exact List.Sublist.refl _ | exact List.nil_sublist _ | apply List.Sublist.cons_cons | apply List.Sublist.cons))) ?_; (try simp only [Act.put, List.setIfInBounds_toArray, List.set_cons_zero, List.set_cons_succ]))
      | ((with_reducible show wpE _ _ _ _ _ _ _); refine wpE_done ?_; go_simp; go_step; go_meet))
    all_goals first
      | exact ⟨_, _, _, rfl, S.out⟩
      | exact ⟨_, _, _, rfl, S.out.perm (List.Perm.swap _ _ _)⟩
  case rest =>
  obtain ⟨b3, so, co, rfl, hS⟩ := hcut
  replace S := hid hS
  clear hS a1 a2 HB OX
  have w' := wc
  have PE := hid (fun w' V' n so co d (hV : V' = 4 ∨ V' = 6) (hd : Byt d) (hn : d.length = n) (hm : n ≤ 65507) (hS : Sp w w' [.row (.slice so n co) 5 1 n (bts d)]) => (show MPost R w (.returned (.agg (msgC V' (T % 256) (C % 256) R (.slice so n co)))) w' from ⟨V', T % 256, C % 256, d, n, so, co, rfl, hS, hV, bT, bC, hd, hn, hm⟩))
  unfold msgC at S
  have hv : ((V % 2 == 0) = false) ∨ ((V % 2 == 0) = true ∧ (V != 4) = false) ∨ ((V % 2 == 0) = true ∧ (V != 4) = true) := by
    cases (V % 2 == 0) <;> cases (V != 4) <;> simp
  have ha : bits .and .i64 V 1 = V % 2 := i64_andlow V 1 1 (by decide) (by decide)
  have hq := (S.out.cap 1 rfl).1
  replace bT := hid bT
  replace bC := hid bC
  generalize T % 256 = T' at *
  generalize C % 256 = C' at *
  generalize V % 2 = r at *
  by_cases hn : 65507 < l.length
  · have d1 : decide ((65507 : Int) < (l.length : Int)) = true := by simp; omega
    rcases hv with h1 | ⟨h1, h2⟩ | ⟨h1, h2⟩
    all_goals
      go_wp2_with (first
        | go_skip
        | ((with_reducible show wpList _ _ _ _ _ _); first
            | ((with_reducible show wpList _ _ _ (⟨_, .load 28 _, _, _, _, _⟩ :: _) _ _); refine wpList_getS (by rfl) _ _ rfl S.out _ rfl 0 _ _ rfl _ (by rfl) Try.underlying28 msg_info ?_)
            | ((with_reducible show wpList _ _ _ (⟨_, .load _ _, _, _, _, _⟩ :: _) _ _); first | (refine wpList_getC (by rfl) _ _ rfl S.out _ _ rfl 3 _ _ rfl _ (msg_0 ..) (by rfl) ?_) | (refine wpList_getC (by rfl) _ _ rfl S.out _ _ rfl 0 _ _ rfl _ (msg_4 ..) (by rfl) ?_))
            | ((with_reducible show wpList _ _ _ (⟨_, .slice _ _ _ _ _, _, _, _, _⟩ :: _) _ _); refine wpList_front (by rfl) _ _ rfl _ _ _ rfl _ _ rfl 65507 rfl (by omega) ?_; replace S := hid (S.out.front 1 rfl 65507 (by omega)); simp only [List.set] at S)
            | ((with_reducible show wpList _ _ _ (⟨_, .store _ _ _, _, _, _, _⟩ :: _) _ _); refine wpList_putS (by rfl) _ _ _ rfl rfl S.out _ (msgC _ _ _ _ (.slice _ _ _)) rfl rfl 2 _ _ rfl msg_info (by rfl) (msg_one rfl) ?_; intro w' hS; simp only [List.set] at hS; replace S := hid hS; clear hS)
            | ((with_reducible show wpList _ _ _ (⟨_, .store _ _ _, _, _, _, _⟩ :: _) _ _); refine wpList_putC (by rfl) _ _ _ rfl rfl S.out _ _ rfl 0 _ _ rfl _ rfl rfl rfl (by rfl) (by simp) ?_; intro w' hS; simp only [List.set] at hS; replace S := hid hS; clear hS)))
      refine post_msg1 Try.results17 rfl _ _ rfl (S.out.heap 2 rfl) msg_info ?_
      exact PE.out _ _ 65507 _ _ (l.take 65507) (by first | exact .inl rfl | exact .inr rfl) (YB.take _) (by rw [List.length_take]; omega) (Nat.le_refl _) (S.out.sub (by repeat (first | exact List.Sublist.refl _ | exact List.nil_sublist _ | apply List.Sublist.cons_cons | apply List.Sublist.cons)))
  · have d1 : decide ((65507 : Int) < (l.length : Int)) = false := by simp; omega
    rcases hv with h1 | ⟨h1, h2⟩ | ⟨h1, h2⟩
    all_goals
      go_wp2_with (first
        | go_skip
        | ((with_reducible show wpList _ _ _ _ _ _); first
            | ((with_reducible show wpList _ _ _ (⟨_, .load 28 _, _, _, _, _⟩ :: _) _ _); refine wpList_getS (by rfl) _ _ rfl S.out _ rfl 0 _ _ rfl _ (by rfl) Try.underlying28 msg_info ?_)
            | ((with_reducible show wpList _ _ _ (⟨_, .load _ _, _, _, _, _⟩ :: _) _ _); first | (refine wpList_getC (by rfl) _ _ rfl S.out _ _ rfl 3 _ _ rfl _ (msg_0 ..) (by rfl) ?_) | (refine wpList_getC (by rfl) _ _ rfl S.out _ _ rfl 0 _ _ rfl _ (msg_4 ..) (by rfl) ?_))
            | ((with_reducible show wpList _ _ _ (⟨_, .store _ _ _, _, _, _, _⟩ :: _) _ _); refine wpList_putS (by rfl) _ _ _ rfl rfl S.out _ (msgC _ _ _ _ (.slice _ _ _)) rfl rfl 2 _ _ rfl msg_info (by rfl) (msg_one rfl) ?_; intro w' hS; simp only [List.set] at hS; replace S := hid hS; clear hS)
            | ((with_reducible show wpList _ _ _ (⟨_, .store _ _ _, _, _, _, _⟩ :: _) _ _); refine wpList_putC (by rfl) _ _ _ rfl rfl S.out _ _ rfl 0 _ _ rfl _ rfl rfl rfl (by rfl) (by simp) ?_; intro w' hS; simp only [List.set] at hS; replace S := hid hS; clear hS)))
      refine post_msg1 Try.results17 rfl _ _ rfl (S.out.heap 2 rfl) msg_info ?_
      exact PE.out _ _ l.length _ _ l (by first | exact .inl rfl | exact .inr rfl) YB rfl (by omega) (S.out.sub (by repeat (first | exact List.Sublist.refl _ | exact List.nil_sublist _ | apply List.Sublist.cons_cons | apply List.Sublist.cons)))
end Go.Proofs.Ytpggbbjhbklamaa
