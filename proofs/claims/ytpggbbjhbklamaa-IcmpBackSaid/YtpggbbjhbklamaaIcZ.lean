/-
  The statement IcmpBack, walked.
-/
import Derived.Test.YtpggbbjhbklamaaIcY
namespace Go.Proofs.Ytpggbbjhbklamaa
open Go.RowKit

/-- what Parse tells of a right message's bytes -/
def PRm (V T C R : Int) (d : List Int) (n : Nat) (w : World) (en : Ending) (w' : World) : Prop :=
  ∃ sx cx, en = .returned (.tuple #[.agg (msgC V T C R (.slice sx n cx)), .int .i64 0]) ∧ Sp w w' [.row (.slice sx n cx) 5 1 n (bts d)]
/-- a right message's bytes, there and back -/
structure RN (V : Int) (A B : List Int) (T C R : Int) (d bl : List Int) (n nb : Nat) : Prop where
  bld : ∀ W v, Rb W v d → Calls Try.prog 9 #[.agg (addrC V A), .agg (addrC V B), .agg (msgC V T C R v)] W (BB 0 nb bl W)
  par : ∀ W v, Rb W v bl → Calls Try.prog 14 #[.agg (addrC V A), .agg (addrC V B), v] W (PRm V T C R d n W)
  g0 : gt bl 0 = T
  g1 : gt bl 1 = C
  hT : 0 ≤ T ∧ T ≤ 255
  hC : 0 ≤ C ∧ C ≤ 255
  yd : Byt d
  ld : d.length = n
  yb : Byt bl
  lb : bl.length = nb
  sum : nb = 8 + n
  small : nb ≤ 65535
theorem rn_of {V : Int} {A B : List Int} {T C R : Int} {d : List Int} {n : Nat} (hA : IsA V A) (hB : IsA V B) (hp : pairA V A V B = true) (hV : V = 4 ∨ V = 6) (hT : 0 ≤ T ∧ T ≤ 255) (hC : 0 ≤ C ∧ C ≤ 255) (hR : 0 ≤ R ∧ R ≤ 4294967295) (hd : Byt d) (hn : d.length = n) (hm : (8 + n : Int) ≤ imost V) :
    RN V A B T C R d (iB V A B T C R d) n (8 + n) := by
  subst hn
  have him : imost V ≤ 65535 := by unfold imost; split <;> omega
  obtain ⟨e1, e2, e3, e4, e5, e6⟩ := i_back (V := V) hA.byt hB.byt hT hC hR hd hm him
  have hs := chkL_bd (V := V) hA.byt hB.byt (iL_byt (s := 0) hT hC hR (by decide) hd) (by rw [iL_len]; omega)
  refine ⟨fun W v hv => ibuild_yes V A B T C R v d W hA hB hp hV hT hC hR hv hm, fun W v hv => ?_, e2, e3, hT, hC, hd, rfl, iL_byt hT hC hR hs hd, e6, rfl, by omega⟩
  refine (iparse_any V A B v _ W hA hB hp hv (by rw [e6]; omega)).mono fun en w' hh => ?_
  obtain ⟨sx, cx, he, hS⟩ := hh.2 e1
  rw [e2, e3, e4, e6, Nat.add_sub_cancel_left] at he
  rw [e5, e6, Nat.add_sub_cancel_left] at hS
  exact ⟨sx, cx, he, hS⟩
/-- bytes that came in: a message's, or refused -/
theorem in_cases {V : Int} {A B : List Int} (hA : IsA V A) (hB : IsA V B) (hp : pairA V A V B = true) (hV : V = 4 ∨ V = 6) {l : List Int} (yl : Byt l) (hl : l.length ≤ 140737488355328) :
    (∃ T C R d n, RN V A B T C R d l n l.length) ∨
    ∃ e : Int, (∀ W v, Rb W v l → Calls Try.prog 14 #[.agg (addrC V A), .agg (addrC V B), v] W (APost W (.tuple #[.agg msg0, .int .i64 e]))) ∧ (e != 0) = true ∧ (e == 20) = decide ((l.length : Int) < 8) := by
  by_cases he : iE V A B l = 0
  · obtain ⟨h1, h2, h3⟩ := i_form yl he
    have y0 := yl.bd 0; have y1 := yl.bd 1; have y4 := yl.bd 4; have y5 := yl.bd 5; have y6 := yl.bd 6; have y7 := yl.bd 7
    have hn : (l.drop 8).length = l.length - 8 := by simp
    have := rn_of hA hB hp hV y0 y1 (R := iR l) (by unfold iR; omega) (yl.drop 8) hn (by omega)
    rw [h1, show 8 + (l.length - 8) = l.length by omega] at this
    exact .inl ⟨_, _, _, _, _, this⟩
  · refine .inr ⟨iE V A B l, fun W v hv => (iparse_any V A B v l W hA hB hp hv hl).mono fun en w' hh => hh.1 he, by simpa using he, ?_⟩
    unfold iE at *
    by_cases h8 : l.length < 8
    · rw [if_pos h8]
      simp
      omega
    · have hd : decide ((l.length : Int) < 8) = false := by simp; omega
      rw [if_neg h8, hd]
      split
      · rfl
      · split <;> rfl
theorem wpE_load_addr {ops : Array Oper} {S : World → Prop} {Q : Exit → Act → World → Prop} {o : Oper} {t : OrdO} {a : Act} {w : World} (hg : Region.wanted o (yielded ops a.tmps) = true) (x : Operand) (ho : o.op = .load 24 x)
    (b : Nat) (V : Int) (bs : List Int) (hx : a.eval x = .pointer (some ⟨b, 0, none⟩)) (hS : ∀ w', S w' → AddrAt w' b V bs) (hl : bs.length = 16) (h : wpE Try.prog ops S Q t (a.put o.dst (.agg (addrC V bs))) w) : wpE Try.prog ops S Q (.weak o t) a w :=
  wpE_weak hg ⟨_, fun w' hw => by
    unfold execOp
    simp only [ho, hx, Instr.loadAt, Instr.sureAddr, Sem.run_bind, Sem.run_pure, Result.andThen_ok, run_loadVar_row w' b 24 24 (addrC V bs) (0, 0) _ (hS w' hw) Try.underlying24 rfl (by rw [addr_info]; simp [addrC, bts_length, hl])], h⟩
theorem wpD_loadS {ops : Array Oper} {S : World → Prop} {Q : Exit → Act → World → Prop} {o : Oper} {l : List (Oper × Bool)} {a : Act} {w : World} (hg : Region.wanted o (yielded ops a.tmps) = true) (x : Operand) (ho : o.op = .load 28 x)
    (b : Nat) (cs : Array Value) (hx : a.eval x = .pointer (some ⟨b, 0, none⟩)) (hS : ∀ w', S w' → w'.heap[b]? = some (.cells cs 28 (0, 0))) (hz : (Try.prog.info? 28).map (·.size) = some cs.size) (h : wpD Try.prog ops S Q l (a.put o.dst (.agg cs)) w) : wpD Try.prog ops S Q ((o, false) :: l) a w :=
  wpD_weak hg ⟨_, fun w' hw => by
    unfold execOp
    simp only [ho, hx, Instr.loadAt, Instr.sureAddr, Sem.run_bind, Sem.run_pure, Result.andThen_ok, run_loadVar_row w' b 28 28 cs (0, 0) _ (hS w' hw) Try.underlying28 rfl hz], h⟩
set_option maxHeartbeats 4000000 in
set_option maxRecDepth 20000 in
theorem icmpBack_any (Va : Int) (bs : List Int) (Vb : Int) (bs2 : List Int) (V T C R : Int) (bv : Value) (l : List Int) (iv : Value) (li : List Int) (w : World) (h : IsA Va bs) (h2 : IsA Vb bs2) (hR : 0 ≤ R ∧ R ≤ 4294967295) (hb : Rb w bv l) (hl : l.length ≤ 140737488355328) (hi : Rb w iv li) (hli : li.length ≤ 140737488355328) :
    Calls Try.prog 5 #[.agg (addrC Va bs), .agg (addrC Vb bs2), .agg (msgC V T C R bv), iv] w (APost w (.bool true)) := by
  have L1 := h.len
  have L2 := h2.len
  have HB := hid hb
  have HI := hid hi
  have YI := hid hi.byt
  have LI := hid hli
  obtain ⟨ad, cd, rfl, _, hmd, _⟩ := hb.open
  obtain ⟨ai, ci, rfl, _, hmi, _⟩ := hi.open
  unfold maxLen at hmd hmi
  have MD := hid (fun W (hv : Rb W (.slice ad l.length cd) l) => mend8_any V T C R _ l W hv hl)
  unfold MPost at MD
  have AL := hid alive8_any
  have OB := hid (fun W v xs (hv : Rb W v xs) (hx : xs.length ≤ 140737488355328) => ownB_any v xs W hv hx)
  have PR := hid (fun U W (hU : U = 4 ∨ U = 6) => (show Calls Try.prog 18 #[.int .i64 U, .agg (addrC Va bs), .agg (addrC Vb bs2)] W (fun en w' => ∃ A B, en = .returned (.tuple #[.agg (addrC U A), .agg (addrC U B)]) ∧ Below W.heap.size W w' ∧ IsA U A ∧ IsA U B ∧ pairA U A U B = true) from
    (pair8_any U Va Vb bs bs2 W h h2 hU).mono fun en w' hh => ⟨_, _, hh.1, hh.2, (pB_is h hU).1, (pB_is h2 hU).1, pB_pair h h2 hU⟩))
  have HR := hid hR
  have SZ := hid (fun W => sameM_true 0 0 0 0 (.slice none 0 0) (.slice none 0 0) [] W (Rb.nil W) (Rb.nil W))
  have SM := hid (fun W U T C d v u (h1 : Rb W v d) (h2 : Rb W u d) => sameM_true U T C R v u d W h1 h2)
  have SI := hid (fun W v (h1 : Rb W v li) (h2 : Rb W (.slice ai li.length ci) li) => (show Calls Try.prog 11 #[v, .slice ai li.length ci] W (SameP W true) from by have := sameB_any v _ _ _ W h1 h2; rwa [decide_eq_true rfl] at this))
  have P := hid (fun en w' (h1 : en = .returned (.bool true)) (h2 : Sp w w' []) => show APost w (.bool true) en w' from ⟨h1, h2.bel⟩)
  have S : Hid (Sp w (((w.alloc (.cells (addrC Va bs) 24)).alloc (.cells (addrC Vb bs2) 24)).alloc (.cells (msgC V T C R (.slice ad l.length cd)) 28)) [.blk (w.heap.size + 2) (msgC V T C R (.slice ad l.length cd)) 28, .blk (w.heap.size + 1) (addrC Vb bs2) 24, .blk w.heap.size (addrC Va bs) 24]) := hid (Sp.in3 ..)
  clear h h2 hR hb hl hi hli
  go_enter Try.func5, Try.ntmps5
  go_upto_region 1 with fail
  generalize (((w.alloc (.cells (addrC Va bs) 24)).alloc (.cells (addrC Vb bs2) 24)).alloc (.cells (msgC V T C R (.slice ad l.length cd)) 28)) = w' at *
  generalize w.heap.size = b at *
  go_upto_region 5 with (first
    | go_skip
    | (((with_reducible show wpList _ _ _ (_ :: _) _ (World.alloc _ _)); refine wpList_world fun w' hw2 => ?_; replace S := hid (S.out.alloc hw2); clear hw2))
    | ((with_reducible show wpList _ _ _ _ _ _); first
        | ((with_reducible show wpList _ _ _ (⟨_, .load 24 _, _, _, _, _⟩ :: _) _ _); first | (refine wpList_getS (by rfl) _ _ rfl S.out _ rfl 0 _ _ rfl _ (by rfl) Try.underlying24 (by rw [addr_info]; exact congrArg some (addr_cells (by first | rfl | assumption)).symm) ?_) | (refine wpList_getS (by rfl) _ _ rfl S.out _ rfl 1 _ _ rfl _ (by rfl) Try.underlying24 (by rw [addr_info]; exact congrArg some (addr_cells (by first | rfl | assumption)).symm) ?_) | (refine wpList_getS (by rfl) _ _ rfl S.out _ rfl 2 _ _ rfl _ (by rfl) Try.underlying24 (by rw [addr_info]; exact congrArg some (addr_cells (by first | rfl | assumption)).symm) ?_) | (refine wpList_getS (by rfl) _ _ rfl S.out _ rfl 3 _ _ rfl _ (by rfl) Try.underlying24 (by rw [addr_info]; exact congrArg some (addr_cells (by first | rfl | assumption)).symm) ?_) | (refine wpList_getS (by rfl) _ _ rfl S.out _ rfl 4 _ _ rfl _ (by rfl) Try.underlying24 (by rw [addr_info]; exact congrArg some (addr_cells (by first | rfl | assumption)).symm) ?_) | (refine wpList_getS (by rfl) _ _ rfl S.out _ rfl 5 _ _ rfl _ (by rfl) Try.underlying24 (by rw [addr_info]; exact congrArg some (addr_cells (by first | rfl | assumption)).symm) ?_))
        | ((with_reducible show wpList _ _ _ (⟨_, .load 28 _, _, _, _, _⟩ :: _) _ _); first | (refine wpList_getS (by rfl) _ _ rfl S.out _ rfl 0 _ _ rfl _ (by rfl) Try.underlying28 msg_info ?_) | (refine wpList_getS (by rfl) _ _ rfl S.out _ rfl 1 _ _ rfl _ (by rfl) Try.underlying28 msg_info ?_) | (refine wpList_getS (by rfl) _ _ rfl S.out _ rfl 2 _ _ rfl _ (by rfl) Try.underlying28 msg_info ?_) | (refine wpList_getS (by rfl) _ _ rfl S.out _ rfl 3 _ _ rfl _ (by rfl) Try.underlying28 msg_info ?_) | (refine wpList_getS (by rfl) _ _ rfl S.out _ rfl 4 _ _ rfl _ (by rfl) Try.underlying28 msg_info ?_) | (refine wpList_getS (by rfl) _ _ rfl S.out _ rfl 5 _ _ rfl _ (by rfl) Try.underlying28 msg_info ?_))
        | ((with_reducible show wpList _ _ _ (⟨_, .load _ _, _, _, _, _⟩ :: _) _ _); refine wpList_getC (by rfl) _ _ rfl S.out _ _ rfl 0 _ _ rfl _ (msg_0 ..) (by rfl) ?_)
        | ((with_reducible show wpList _ _ _ (⟨_, .store _ _ _, _, _, _, _⟩ :: _) _ _); first
            | (refine wpList_putS (by rfl) _ _ _ rfl rfl S.out _ (msgC _ _ _ R (.slice _ _ _)) rfl rfl 0 28 _ rfl msg_info (by rfl) (msg_one rfl) ?_; intro w' hS; simp only [List.set] at hS; replace S := hid hS; clear hS)
            | (refine wpList_putS (by rfl) _ _ _ rfl rfl S.out _ (addrC V2 A) rfl rfl 1 24 _ rfl (by rw [addr_info]; exact congrArg some (addr_cells LA).symm) (by rw [addr_cells LA]; rfl) (addrC_one _ _) ?_; intro w' hS; simp only [List.set] at hS; replace S := hid hS; clear hS)
            | (refine wpList_putS (by rfl) _ _ _ rfl rfl S.out _ (addrC V2 B) rfl rfl 0 24 _ rfl (by rw [addr_info]; exact congrArg some (addr_cells LB).symm) (by rw [addr_cells LB]; rfl) (addrC_one _ _) ?_; intro w' hS; simp only [List.set] at hS; replace S := hid hS; clear hS)))
    | (go_at_call 7; refine (AL.out _).mono ?_; rintro en w' ⟨rfl, hb⟩; replace S := hid (S.out.keep hb); clear hb)
    | (go_at_call 17; refine (MD.out _ (HB.out.below S.out.bel)).mono ?_; rintro en w' ⟨V2, T2, C2, d, n, so, co, rfl, hS, hV, hT, hC, yd, hn, hm⟩; have HV := hid hV; have HT := hid hT; have HC := hid hC; have HN := hid (And.intro hn hm); clear hV hT hC hn hm; replace hS := S.out.call hS; simp only [List.cons_append, List.nil_append] at hS; replace S := hid hS; clear hS)
    | (go_at_call 18; refine (PR.out _ _ HV.out).mono ?_; rintro en w' ⟨A, B, rfl, hb, hA, hB, hp⟩; have LA := hA.len; have LB := hB.len; obtain ⟨bl, nb, hM⟩ : ∃ bl nb, RN V2 A B T2 C2 R d bl n nb := ⟨_, _, rn_of hA hB hp HV.out HT.out HC.out HR.out yd HN.out.1 (by have := HN.out.2; unfold imost; split <;> omega)⟩; have M := hid hM; have IC := hid (in_cases hA hB hp HV.out YI.out LI.out); replace S := hid (S.out.keep hb); clear hA hB hp hb hM))
  (try simp only [Act.put, List.setIfInBounds_toArray, List.set_cons_zero, List.set_cons_succ])
  refine wp_region_canon ((0, false) :: (1, false) :: (2, false) :: (3, false) :: (4, false) :: (5, false) :: (6, false) :: (7, false) :: (8, false) :: (9, false) :: (10, false) :: (11, false) :: (12, true) :: (13, false) :: (14, true) :: (15, false) :: (16, false) :: (17, false) :: (18, false) :: (19, false) :: []) (fun W => Below w'.heap.size w' W) (by kernel_rfl) (by kernel_rfl) (fun c a d v w h => by cases d <;> exact h) ?_ ?_
  · exact (Same.drew _).below _
  simp only [pick, List.getElem?_cons_succ, List.getElem?_cons_zero]
  have B0 := hid ((Same.drew w').below w'.heap.size)
  refine wpD_load_addr (by rfl) _ rfl _ _ _ rfl (fun _ hS => (S.out.keep hS).heap 1 rfl) LA ?_
  refine wpD_load_addr (by rfl) _ rfl _ _ _ rfl (fun _ hS => (S.out.keep hS).heap 0 rfl) LB ?_
  (try simp only [Act.put, List.setIfInBounds_toArray, List.set_cons_zero, List.set_cons_succ])
  (repeat (first | (refine wpD_weak (by rfl) ?_; apply Exists.intro; refine ⟨fun wS hS => ?_, ?_⟩; (focus (have c0 := (S.out.keep hS).cellC 2 rfl (msg_0 ..); have c1 := (S.out.keep hS).cellC 2 rfl (msg_1 ..); have c2 := (S.out.keep hS).cellC 2 rfl (msg_2 ..); have c3 := (S.out.keep hS).cellC 2 rfl (msg_3 ..); have c4 := (S.out.keep hS).cellC 2 rfl (msg_4 ..); go_simp; (try with_reducible rfl); done)); simp only [Act.put, List.setIfInBounds_toArray, List.set_cons_zero, List.set_cons_succ]) | (refine wpD_pass (by rfl) ?_; simp only [Act.put, List.setIfInBounds_toArray, List.set_cons_zero, List.set_cons_succ])))
  (refine wpD_strong (by rfl) (fun K hK => ?_); go_simp)
  refine (OB.out _ _ _ ((S.out.keep B0.out).rb 3 rfl M.out.yd) (by rw [M.out.ld]; have := HN.out.2; omega)).mono ?_
  rintro en wk ⟨so2, co2, rfl, hS2⟩
  have R2 := hid (hS2.rb 0 rfl M.out.yd)
  have hb := hS2.bel
  clear hS2
  replace B0 := hid (B0.out.trans (hb.mono B0.out.size))
  clear hb
  (refine hK _ _ (by exact B0.out) ?_; clear hK K; (try simp only [Act.put, List.setIfInBounds_toArray, List.set_cons_zero, List.set_cons_succ]))
  (repeat (first | (refine wpD_weak (by rfl) ?_; apply Exists.intro; refine ⟨fun wS hS => ?_, ?_⟩; (focus (go_simp; (try with_reducible rfl); done)); simp only [Act.put, List.setIfInBounds_toArray, List.set_cons_zero, List.set_cons_succ]) | (refine wpD_pass (by rfl) ?_; simp only [Act.put, List.setIfInBounds_toArray, List.set_cons_zero, List.set_cons_succ])))
  (refine wpD_strong (by rfl) (fun K hK => ?_); go_simp)
  refine (M.out.bld _ _ R2.out).mono ?_
  rintro en wk2 ⟨ca, cc, rfl, hS2⟩
  replace S := hid ((S.out.keep B0.out).call hS2)
  simp only [List.cons_append, List.nil_append] at S
  replace B0 := hid (B0.out.trans (hS2.bel.mono B0.out.size))
  clear hS2 R2
  (refine hK _ _ (by exact B0.out) ?_; clear hK K; (try simp only [Act.put, List.setIfInBounds_toArray, List.set_cons_zero, List.set_cons_succ]))
  (repeat (first | (refine wpD_weak (by rfl) ?_; apply Exists.intro; refine ⟨fun wS hS => ?_, ?_⟩; (focus (go_simp; (try with_reducible rfl); done)); simp only [Act.put, List.setIfInBounds_toArray, List.set_cons_zero, List.set_cons_succ]) | (refine wpD_pass (by rfl) ?_; simp only [Act.put, List.setIfInBounds_toArray, List.set_cons_zero, List.set_cons_succ])))
  refine wpD_nil ?_
  clear B0
  go_upto_region 6 with fail
  generalize (World.heap _).size = bB at S ⊢
  generalize (World.heap _).size = bA at S ⊢
  generalize (World.heap _).size = b9 at S ⊢
  go_cut [14, 15] from 16 (fun v e wc => ∃ b14 sx cx, v = .pointer (some ⟨b14, 0, none⟩) ∧ e = .int .i64 0 ∧ Sp w wc [.blk b14 (msgC V2 T2 C2 R (.slice sx n cx)) 28, .row (.slice sx n cx) 5 1 n (bts d), .row (.slice ca nb cc) 5 1 nb (bts bl), .blk bB (addrC V2 B) 24, .blk bA (addrC V2 A) 24, .blk b9 (msgC V2 T2 C2 R (.slice so n co)) 28, .row (.slice so n co) 5 1 n (bts d)])
  case first =>
    have YB := M.out.yb
    have lb := M.out.lb
    have hsm := M.out.small
    refine wp_region_ord (.weak 0 (.weak 1 (.weak 2 (.two 3 8 (.two 4 8 (.weak 5 (.weak 6 (.weak 7 (.strong 8 (.strong 9 (.weak 10 (.done))))))) (.strong 4 (.weak 5 (.weak 6 (.weak 7 (.strong 9 (.weak 10 (.done)))))))) (.strong 3 (.strong 4 (.weak 5 (.weak 6 (.weak 7 (.strong 9 (.weak 10 (.done)))))))))))) (fun W => Sp w W [.blk bB (addrC V2 B) 24, .blk bA (addrC V2 A) 24]) (by kernel_rfl) (by kernel_rfl) (fun c a d v w h => by cases d <;> exact h) ?_ ?_
    · exact (S.out.same (Same.drew _)).sub (by repeat (first | exact List.Sublist.refl _ | exact List.nil_sublist _ | apply List.Sublist.cons_cons | apply List.Sublist.cons))
    replace S := hid (S.out.same (Same.drew wk2))
    generalize wk2.drew = w' at *
    simp only [Ord.pick, List.getElem?_cons_succ, List.getElem?_cons_zero]
    refine wpE_load_addr (by rfl) _ rfl _ _ _ rfl (fun _ hS => hS.heap 1 rfl) LA ?_
    refine wpE_load_addr (by rfl) _ rfl _ _ _ rfl (fun _ hS => hS.heap 0 rfl) LB ?_
    (try simp only [Act.put, List.setIfInBounds_toArray, List.set_cons_zero, List.set_cons_succ])
    repeat' (first
      | ((with_reducible show wpE _ _ _ _ _ _ _); (first | (refine wpE_weak (by rfl) ?_; apply Exists.intro; refine ⟨fun wS hS => ?_, ?_⟩; (focus (go_simp; (try with_reducible rfl); done)); simp only [Act.put, List.setIfInBounds_toArray, List.set_cons_zero, List.set_cons_succ]) | (refine wpE_pass (by rfl) ?_; simp only [Act.put, List.setIfInBounds_toArray, List.set_cons_zero, List.set_cons_succ])))
      | ((with_reducible show wpE _ _ _ _ _ _ _); refine wpE_strongL (by rfl) ?_)
      | ((with_reducible show wpE _ _ _ _ _ _ _); refine wpE_twoL (by rfl) (by rfl) ?_ ?_)
      | ((with_reducible show wpList _ _ _ _ _ _); go_wp2_with (first
        | go_skip
        | ((with_reducible show wpList _ _ _ _ _ _); ((with_reducible show wpList _ _ _ (⟨_, .store _ _ _, _, _, _, _⟩ :: _) _ _); first | (refine wpList_putS (by rfl) _ _ _ rfl rfl S.out _ (msgC V2 T2 C2 R (.slice _ n _)) rfl rfl 0 28 _ rfl msg_info (by rfl) (msg_one rfl) ?_; intro w' hS; simp only [List.set] at hS; replace S := hid hS; clear hS) | (refine wpList_putS (by rfl) _ _ _ rfl rfl S.out _ (msgC V2 T2 C2 R (.slice _ n _)) rfl rfl 1 28 _ rfl msg_info (by rfl) (msg_one rfl) ?_; intro w' hS; simp only [List.set] at hS; replace S := hid hS; clear hS) | (refine wpList_putS (by rfl) _ _ _ rfl rfl S.out _ (msgC V2 T2 C2 R (.slice _ n _)) rfl rfl 2 28 _ rfl msg_info (by rfl) (msg_one rfl) ?_; intro w' hS; simp only [List.set] at hS; replace S := hid hS; clear hS)))
        | (go_at_call 8; refine (OB.out _ _ bl (by (first | exact S.out.rb 0 rfl (by assumption) | exact S.out.rb 1 rfl (by assumption) | exact S.out.rb 2 rfl (by assumption) | exact S.out.rb 3 rfl (by assumption) | exact S.out.rb 4 rfl (by assumption) | exact S.out.rb 5 rfl (by assumption) | exact S.out.rb 6 rfl (by assumption))) (by rw [lb]; omega)).mono ?_; rintro en w' ⟨sz, cz, rfl, hS⟩; rw [lb] at hS ⊢; replace hS := S.out.call hS; simp only [List.cons_append, List.nil_append] at hS; replace S := hid hS; clear hS)
        | (go_at_call 14; refine (M.out.par _ _ (by (first | exact S.out.rb 0 rfl (by assumption) | exact S.out.rb 1 rfl (by assumption) | exact S.out.rb 2 rfl (by assumption) | exact S.out.rb 3 rfl (by assumption) | exact S.out.rb 4 rfl (by assumption) | exact S.out.rb 5 rfl (by assumption) | exact S.out.rb 6 rfl (by assumption)))).mono ?_; rintro en w' ⟨sx, cx, rfl, hS⟩; replace hS := S.out.call hS; simp only [List.cons_append, List.nil_append] at hS; replace S := hid hS; clear hS)))
      | ((with_reducible show qEnd _ _ _ _ (World.alloc _ _)); refine (fun (h : ∀ w2, w2 = World.alloc _ _ → qEnd _ _ .normal _ w2) => h _ rfl) ?_; intro w' hw2; replace S := hid (S.out.alloc hw2); clear hw2)
      | ((with_reducible show qEnd _ _ _ _ _); refine qEnd_done (S.out.sub (by repeat (first | exact List.Sublist.refl _ | exact List.nil_sublist _ | apply List.Sublist.cons_cons | apply List.Sublist.cons))) ?_; (try simp only [Act.put, List.setIfInBounds_toArray, List.set_cons_zero, List.set_cons_succ]))
      | ((with_reducible show wpE _ _ _ _ _ _ _); refine wpE_done ?_; go_simp; go_step; go_meet))
    all_goals first | (have hq := S.out.heap 0 rfl; clear hq; refine ⟨_, sx, cx, rfl, rfl, S.out.sub ?_⟩; ((repeat (first | exact List.Sublist.refl _ | exact List.nil_sublist _ | apply List.Sublist.cons_cons | apply List.Sublist.cons)); done)) | (have hq := S.out.heap 1 rfl; clear hq; refine ⟨_, sx, cx, rfl, rfl, (S.out.perm (List.Perm.swap _ _ _)).sub ?_⟩; ((repeat (first | exact List.Sublist.refl _ | exact List.nil_sublist _ | apply List.Sublist.cons_cons | apply List.Sublist.cons)); done)) | (have hq := S.out.heap 2 rfl; clear hq; refine ⟨_, sx, cx, rfl, rfl, (S.out.perm ((List.Perm.cons _ (List.Perm.swap _ _ _)).trans (List.Perm.swap _ _ _))).sub ?_⟩; ((repeat (first | exact List.Sublist.refl _ | exact List.nil_sublist _ | apply List.Sublist.cons_cons | apply List.Sublist.cons)); done))
  case rest =>
  obtain ⟨b14, sx, cx, rfl, rfl, hS⟩ := hcut
  replace S := hid hS
  clear hS
  have lb := M.out.lb
  have hnsum := M.out.sum
  have hsm := M.out.small
  have hnb0 : 0 < nb := by omega
  have hnb1 : 1 < nb := by omega
  have hi0 : (0 : Int) < (nb : Int) := Int.natCast_pos.2 hnb0
  have hi1 : (1 : Int) < (nb : Int) := by exact_mod_cast hnb1
  have e8 : IntKind.i64.wrap (8 + (n : Int)) = (nb : Int) := by rw [IntWalk.i64_in _ (by omega)]; omega
  obtain ⟨g1, c1, hv⟩ := S.out.rowopen 2 rfl hnb0
  simp only [Value.slice.injEq, true_and] at hv
  obtain ⟨rfl, rfl⟩ := hv
  have q0 : IntKind.i64.wrap T2 = T2 := IntWalk.i64_in _ (by have := M.out.hT; omega)
  have q1 : IntKind.i64.wrap C2 = C2 := IntWalk.i64_in _ (by have := M.out.hC; omega)
  have Z := hid (fun W (hW : Sp w W _) => And.intro (hW.rowcell (L := [.blk b14 (msgC V2 T2 C2 R (.slice sx n cx)) 28, .row (.slice sx n cx) 5 1 n (bts d), .row (.slice (some ⟨g1, 0, none⟩) nb cc) 5 1 nb (bts bl), .blk bB (addrC V2 B) 24, .blk bA (addrC V2 A) 24, .blk b9 (msgC V2 T2 C2 R (.slice so n co)) 28, .row (.slice so n co) 5 1 n (bts d)]) 2 rfl (j := 0) (by rw [lb]; exact hnb0)) (hW.rowcell 2 rfl (j := 1) (by rw [lb]; exact hnb1)))
  rw [M.out.g0, M.out.g1] at Z
  clear lb hnsum hsm
  go_upto_region 7 with fail
  refine wp_region_canon ((0, false) :: (1, false) :: (2, false) :: (3, false) :: (4, false) :: (5, false) :: (6, false) :: (7, false) :: (8, false) :: (9, true) :: (10, false) :: (11, false) :: (12, false) :: (13, false) :: (14, false) :: (15, false) :: (16, false) :: (17, false) :: (18, false) :: (19, false) :: (20, false) :: (21, false) :: (22, false) :: (23, false) :: (24, false) :: (25, false) :: (26, false) :: (27, false) :: (28, false) :: (29, false) :: (30, false) :: (31, false) :: (32, false) :: (33, false) :: (34, false) :: (35, false) :: (36, false) :: (37, false) :: (38, false) :: []) (fun W => Below wc.heap.size wc W) (by kernel_rfl) (by kernel_rfl) (fun c a d v w h => by cases d <;> exact h) ?_ ?_
  · exact (Same.drew _).below _
  simp only [pick, List.getElem?_cons_succ, List.getElem?_cons_zero]
  have B0 := hid ((Same.drew wc).below wc.heap.size)
  (repeat (first | (refine wpD_weak (by rfl) ?_; apply Exists.intro; refine ⟨fun wS hS => ?_, ?_⟩; (focus (go_simp; (try with_reducible rfl); done)); simp only [Act.put, List.setIfInBounds_toArray, List.set_cons_zero, List.set_cons_succ]) | (refine wpD_pass (by rfl) ?_; simp only [Act.put, List.setIfInBounds_toArray, List.set_cons_zero, List.set_cons_succ])))
  refine wpD_loadS (by rfl) _ rfl _ _ rfl (fun _ hS => (S.out.keep hS).heap 0 rfl) msg_info ?_
  (try simp only [Act.put, List.setIfInBounds_toArray, List.set_cons_zero, List.set_cons_succ])
  refine wpD_loadS (by rfl) _ rfl _ _ rfl (fun _ hS => (S.out.keep hS).heap 5 rfl) msg_info ?_
  (try simp only [Act.put, List.setIfInBounds_toArray, List.set_cons_zero, List.set_cons_succ])
  (refine wpD_strong (by rfl) (fun K hK => ?_); go_simp)
  refine (SM.out _ _ _ _ d _ _ ((S.out.keep B0.out).rb 1 rfl M.out.yd) ((S.out.keep B0.out).rb 6 rfl M.out.yd)).mono ?_
  rintro en wk ⟨rfl, hb⟩
  replace B0 := hid (B0.out.trans (hb.mono B0.out.size)); clear hb
  (refine hK _ _ (by exact B0.out) ?_; clear hK K; (try simp only [Act.put, List.setIfInBounds_toArray, List.set_cons_zero, List.set_cons_succ]))
  (repeat (first | (refine wpD_weak (by rfl) ?_; apply Exists.intro; refine ⟨fun wS hS => ?_, ?_⟩; (focus (have z0 := (Z.out _ (S.out.keep hS)).1; have z1 := (Z.out _ (S.out.keep hS)).2; have k1 := (S.out.keep hS).cellC 5 rfl (msg_1 ..); have k2 := (S.out.keep hS).cellC 5 rfl (msg_2 ..); have k4 := (S.out.keep hS).cellC 5 rfl (msg_4 ..); go_simp; (try with_reducible rfl); done)); simp only [Act.put, List.setIfInBounds_toArray, List.set_cons_zero, List.set_cons_succ]) | (refine wpD_pass (by rfl) ?_; simp only [Act.put, List.setIfInBounds_toArray, List.set_cons_zero, List.set_cons_succ])))
  refine wpD_nil ?_
  replace S := hid (S.out.keep B0.out)
  clear B0 Z q0 q1 hi0 hi1 e8 hnb0 hnb1
  go_upto_region 9 with fail
  have hLI := LI.out
  rcases IC.out with ⟨T3, C3, R3, d3, n3, N⟩ | ⟨e3, N, he0, he20⟩
  · replace N := hid N
    go_cut [16, 17] from 18 (fun v e wc => ∃ b16 sx cx, v = .pointer (some ⟨b16, 0, none⟩) ∧ e = .int .i64 0 ∧ Sp w wc [.blk b16 (msgC V2 T3 C3 R3 (.slice sx n3 cx)) 28, .row (.slice sx n3 cx) 5 1 n3 (bts d3), .blk bB (addrC V2 B) 24, .blk bA (addrC V2 A) 24])
    case first =>
      refine wp_region_ord (.weak 0 (.weak 1 (.weak 2 (.two 3 8 (.two 4 8 (.weak 5 (.weak 6 (.weak 7 (.strong 8 (.strong 9 (.weak 10 (.done))))))) (.strong 4 (.weak 5 (.weak 6 (.weak 7 (.strong 9 (.weak 10 (.done)))))))) (.strong 3 (.strong 4 (.weak 5 (.weak 6 (.weak 7 (.strong 9 (.weak 10 (.done)))))))))))) (fun W => Sp w W [.blk bB (addrC V2 B) 24, .blk bA (addrC V2 A) 24]) (by kernel_rfl) (by kernel_rfl) (fun c a d v w h => by cases d <;> exact h) ?_ ?_
      · exact (S.out.same (Same.drew _)).sub (by repeat (first | exact List.Sublist.refl _ | exact List.nil_sublist _ | apply List.Sublist.cons_cons | apply List.Sublist.cons))
      replace S := hid ((S.out.same (Same.drew wk)).sub (show [Res.blk bB (addrC V2 B) 24, .blk bA (addrC V2 A) 24].Sublist _ from (by repeat (first | exact List.Sublist.refl _ | exact List.nil_sublist _ | apply List.Sublist.cons_cons | apply List.Sublist.cons))))
      generalize wk.drew = w' at *
      simp only [Ord.pick, List.getElem?_cons_succ, List.getElem?_cons_zero]
      refine wpE_load_addr (by rfl) _ rfl _ _ _ rfl (fun _ hS => hS.heap 1 rfl) LA ?_
      refine wpE_load_addr (by rfl) _ rfl _ _ _ rfl (fun _ hS => hS.heap 0 rfl) LB ?_
      (try simp only [Act.put, List.setIfInBounds_toArray, List.set_cons_zero, List.set_cons_succ])
      repeat' (first
        | ((with_reducible show wpE _ _ _ _ _ _ _); (first | (refine wpE_weak (by rfl) ?_; apply Exists.intro; refine ⟨fun wS hS => ?_, ?_⟩; (focus (go_simp; (try with_reducible rfl); done)); simp only [Act.put, List.setIfInBounds_toArray, List.set_cons_zero, List.set_cons_succ]) | (refine wpE_pass (by rfl) ?_; simp only [Act.put, List.setIfInBounds_toArray, List.set_cons_zero, List.set_cons_succ])))
        | ((with_reducible show wpE _ _ _ _ _ _ _); refine wpE_strongL (by rfl) ?_)
        | ((with_reducible show wpE _ _ _ _ _ _ _); refine wpE_twoL (by rfl) (by rfl) ?_ ?_)
        | ((with_reducible show wpList _ _ _ _ _ _); go_wp2_with (first
          | go_skip
          | ((with_reducible show wpList _ _ _ _ _ _); ((with_reducible show wpList _ _ _ (⟨_, .store _ _ _, _, _, _, _⟩ :: _) _ _); first | (refine wpList_putS (by rfl) _ _ _ rfl rfl S.out _ (msgC V2 T3 C3 R3 (.slice _ n3 _)) rfl rfl 0 28 _ rfl msg_info (by rfl) (msg_one rfl) ?_; intro w' hS; simp only [List.set] at hS; replace S := hid hS; clear hS) | (refine wpList_putS (by rfl) _ _ _ rfl rfl S.out _ (msgC V2 T3 C3 R3 (.slice _ n3 _)) rfl rfl 1 28 _ rfl msg_info (by rfl) (msg_one rfl) ?_; intro w' hS; simp only [List.set] at hS; replace S := hid hS; clear hS) | (refine wpList_putS (by rfl) _ _ _ rfl rfl S.out _ (msgC V2 T3 C3 R3 (.slice _ n3 _)) rfl rfl 2 28 _ rfl msg_info (by rfl) (msg_one rfl) ?_; intro w' hS; simp only [List.set] at hS; replace S := hid hS; clear hS)))
          | (go_at_call 8; refine (OB.out _ _ li (HI.out.below S.out.bel) hLI).mono ?_; rintro en w' ⟨sz, cz, rfl, hS⟩; replace hS := S.out.call hS; simp only [List.cons_append, List.nil_append] at hS; replace S := hid hS; clear hS)
          | (go_at_call 14; refine (N.out.par _ _ (by first | exact S.out.rb 0 rfl YI.out | exact S.out.rb 1 rfl YI.out)).mono ?_; rintro en w' ⟨sx, cx, rfl, hS⟩; replace hS := S.out.call hS; simp only [List.cons_append, List.nil_append] at hS; replace S := hid hS; clear hS)))
        | ((with_reducible show qEnd _ _ _ _ (World.alloc _ _)); refine (fun (h : ∀ w2, w2 = World.alloc _ _ → qEnd _ _ .normal _ w2) => h _ rfl) ?_; intro w' hw2; replace S := hid (S.out.alloc hw2); clear hw2)
        | ((with_reducible show qEnd _ _ _ _ _); refine qEnd_done (S.out.sub (by repeat (first | exact List.Sublist.refl _ | exact List.nil_sublist _ | apply List.Sublist.cons_cons | apply List.Sublist.cons))) ?_; (try simp only [Act.put, List.setIfInBounds_toArray, List.set_cons_zero, List.set_cons_succ]))
        | ((with_reducible show wpE _ _ _ _ _ _ _); refine wpE_done ?_; go_simp; go_step; go_meet))
      all_goals first | (have hq := S.out.heap 0 rfl; clear hq; refine ⟨_, sx, cx, rfl, rfl, S.out.sub ?_⟩; ((repeat (first | exact List.Sublist.refl _ | exact List.nil_sublist _ | apply List.Sublist.cons_cons | apply List.Sublist.cons)); done)) | (have hq := S.out.heap 1 rfl; clear hq; refine ⟨_, sx, cx, rfl, rfl, (S.out.perm (List.Perm.swap _ _ _)).sub ?_⟩; ((repeat (first | exact List.Sublist.refl _ | exact List.nil_sublist _ | apply List.Sublist.cons_cons | apply List.Sublist.cons)); done)) | (have hq := S.out.heap 2 rfl; clear hq; refine ⟨_, sx, cx, rfl, rfl, (S.out.perm ((List.Perm.cons _ (List.Perm.swap _ _ _)).trans (List.Perm.swap _ _ _))).sub ?_⟩; ((repeat (first | exact List.Sublist.refl _ | exact List.nil_sublist _ | apply List.Sublist.cons_cons | apply List.Sublist.cons)); done))
    case rest =>
    obtain ⟨b16, sx3, cx3, rfl, rfl, hS⟩ := hcut
    replace S := hid hS
    clear hS
    go_wp2_with (first
      | go_skip
      | ((with_reducible show wpList _ _ _ _ _ _); first | ((with_reducible show wpList _ _ _ (⟨_, .load 24 _, _, _, _, _⟩ :: _) _ _); first | (refine wpList_getS (by rfl) _ _ rfl S.out _ rfl 2 _ _ rfl _ (by rfl) Try.underlying24 (by rw [addr_info]; exact congrArg some (addr_cells (by first | rfl | assumption)).symm) ?_) | (refine wpList_getS (by rfl) _ _ rfl S.out _ rfl 3 _ _ rfl _ (by rfl) Try.underlying24 (by rw [addr_info]; exact congrArg some (addr_cells (by first | rfl | assumption)).symm) ?_)) | ((with_reducible show wpList _ _ _ (⟨_, .load 28 _, _, _, _, _⟩ :: _) _ _); refine wpList_getS (by rfl) _ _ rfl S.out _ rfl 0 _ _ rfl _ (by rfl) Try.underlying28 msg_info ?_))
      | (go_at_call 9; refine (N.out.bld _ _ (S.out.rb 1 rfl N.out.yd)).mono ?_; rintro en w' ⟨ca3, cc3, rfl, hS⟩; replace hS := S.out.call hS; simp only [List.cons_append, List.nil_append] at hS; replace S := hid hS; clear hS)
      | (go_at_call 11; refine (SI.out _ _ (S.out.rb 0 rfl YI.out) (HI.out.below S.out.bel)).mono ?_; rintro en w'' ⟨rfl, rfl⟩))
    go_ret
    exact P.out _ _ rfl S.out.nil
  · replace N := hid N
    go_cut [16, 17] from 18 (fun v e wc => ∃ b16, v = .pointer (some ⟨b16, 0, none⟩) ∧ e = .int .i64 e3 ∧ Sp w wc [.blk b16 msg0 28])
    case first =>
      refine wp_region_ord (.weak 0 (.weak 1 (.weak 2 (.two 3 8 (.two 4 8 (.weak 5 (.weak 6 (.weak 7 (.strong 8 (.strong 9 (.weak 10 (.done))))))) (.strong 4 (.weak 5 (.weak 6 (.weak 7 (.strong 9 (.weak 10 (.done)))))))) (.strong 3 (.strong 4 (.weak 5 (.weak 6 (.weak 7 (.strong 9 (.weak 10 (.done)))))))))))) (fun W => Sp w W [.blk bB (addrC V2 B) 24, .blk bA (addrC V2 A) 24]) (by kernel_rfl) (by kernel_rfl) (fun c a d v w h => by cases d <;> exact h) ?_ ?_
      · exact (S.out.same (Same.drew _)).sub (by repeat (first | exact List.Sublist.refl _ | exact List.nil_sublist _ | apply List.Sublist.cons_cons | apply List.Sublist.cons))
      replace S := hid ((S.out.same (Same.drew wk)).sub (show [Res.blk bB (addrC V2 B) 24, .blk bA (addrC V2 A) 24].Sublist _ from (by repeat (first | exact List.Sublist.refl _ | exact List.nil_sublist _ | apply List.Sublist.cons_cons | apply List.Sublist.cons))))
      generalize wk.drew = w' at *
      simp only [Ord.pick, List.getElem?_cons_succ, List.getElem?_cons_zero]
      refine wpE_load_addr (by rfl) _ rfl _ _ _ rfl (fun _ hS => hS.heap 1 rfl) LA ?_
      refine wpE_load_addr (by rfl) _ rfl _ _ _ rfl (fun _ hS => hS.heap 0 rfl) LB ?_
      (try simp only [Act.put, List.setIfInBounds_toArray, List.set_cons_zero, List.set_cons_succ])
      repeat' (first
        | ((with_reducible show wpE _ _ _ _ _ _ _); (first | (refine wpE_weak (by rfl) ?_; apply Exists.intro; refine ⟨fun wS hS => ?_, ?_⟩; (focus (go_simp; (try with_reducible rfl); done)); simp only [Act.put, List.setIfInBounds_toArray, List.set_cons_zero, List.set_cons_succ]) | (refine wpE_pass (by rfl) ?_; simp only [Act.put, List.setIfInBounds_toArray, List.set_cons_zero, List.set_cons_succ])))
        | ((with_reducible show wpE _ _ _ _ _ _ _); refine wpE_strongL (by rfl) ?_)
        | ((with_reducible show wpE _ _ _ _ _ _ _); refine wpE_twoL (by rfl) (by rfl) ?_ ?_)
        | ((with_reducible show wpList _ _ _ _ _ _); go_wp2_with (first
          | go_skip
          | ((with_reducible show wpList _ _ _ _ _ _); ((with_reducible show wpList _ _ _ (⟨_, .store _ _ _, _, _, _, _⟩ :: _) _ _); first | (refine wpList_putS (by rfl) _ _ _ rfl rfl S.out _ msg0 rfl rfl 0 28 _ rfl msg_info (by rfl) msg0_one ?_; intro w' hS; simp only [List.set] at hS; replace S := hid hS; clear hS) | (refine wpList_putS (by rfl) _ _ _ rfl rfl S.out _ msg0 rfl rfl 1 28 _ rfl msg_info (by rfl) msg0_one ?_; intro w' hS; simp only [List.set] at hS; replace S := hid hS; clear hS) | (refine wpList_putS (by rfl) _ _ _ rfl rfl S.out _ msg0 rfl rfl 2 28 _ rfl msg_info (by rfl) msg0_one ?_; intro w' hS; simp only [List.set] at hS; replace S := hid hS; clear hS)))
          | (go_at_call 8; refine (OB.out _ _ li (HI.out.below S.out.bel) hLI).mono ?_; rintro en w' ⟨sz, cz, rfl, hS⟩; replace hS := S.out.call hS; simp only [List.cons_append, List.nil_append] at hS; replace S := hid hS; clear hS)
          | (go_at_call 14; refine (N.out _ _ (by first | exact S.out.rb 0 rfl YI.out | exact S.out.rb 1 rfl YI.out)).mono ?_; rintro en w' ⟨rfl, hb⟩; replace S := hid (S.out.keep hb); clear hb)))
        | ((with_reducible show qEnd _ _ _ _ (World.alloc _ _)); refine (fun (h : ∀ w2, w2 = World.alloc _ _ → qEnd _ _ .normal _ w2) => h _ rfl) ?_; intro w' hw2; replace S := hid (S.out.alloc hw2); clear hw2)
        | ((with_reducible show qEnd _ _ _ _ _); refine qEnd_done (S.out.sub (by repeat (first | exact List.Sublist.refl _ | exact List.nil_sublist _ | apply List.Sublist.cons_cons | apply List.Sublist.cons))) ?_; (try simp only [Act.put, List.setIfInBounds_toArray, List.set_cons_zero, List.set_cons_succ]))
        | ((with_reducible show wpE _ _ _ _ _ _ _); refine wpE_done ?_; go_simp; go_step; go_meet))
      all_goals first | (have hq := S.out.heap 0 rfl; clear hq; exact ⟨_, rfl, rfl, S.out.one 0 rfl⟩) | (have hq := S.out.heap 1 rfl; clear hq; exact ⟨_, rfl, rfl, S.out.one 1 rfl⟩)
    case rest =>
    obtain ⟨b16, rfl, rfl, hS⟩ := hcut
    replace S := hid hS
    clear hS
    go_wp2_with (first
      | go_skip
      | ((with_reducible show wpList _ _ _ _ _ _); first | ((with_reducible show wpList _ _ _ (⟨_, .load 28 _, _, _, _, _⟩ :: _) _ _); first | (refine wpList_getS (by rfl) _ _ rfl S.out _ rfl 0 _ _ rfl _ (by rfl) Try.underlying28 msg_info ?_) | (refine wpList_getS (by rfl) _ _ rfl S.out _ rfl 1 _ _ rfl _ (by rfl) Try.underlying28 msg_info ?_) | (refine wpList_getS (by rfl) _ _ rfl S.out _ rfl 2 _ _ rfl _ (by rfl) Try.underlying28 msg_info ?_) | (refine wpList_getS (by rfl) _ _ rfl S.out _ rfl 3 _ _ rfl _ (by rfl) Try.underlying28 msg_info ?_) | (refine wpList_getS (by rfl) _ _ rfl S.out _ rfl 4 _ _ rfl _ (by rfl) Try.underlying28 msg_info ?_) | (refine wpList_getS (by rfl) _ _ rfl S.out _ rfl 5 _ _ rfl _ (by rfl) Try.underlying28 msg_info ?_)) | ((with_reducible show wpList _ _ _ (⟨_, .load 28 _, _, _, _, _⟩ :: _) _ _); refine wpList_getS (by rfl) _ _ rfl S.out _ rfl 0 _ _ rfl _ (by rfl) Try.underlying28 msg_info ?_))
      | (go_at_call 16; refine (SZ.out _).mono ?_; rintro en w' ⟨rfl, hb⟩; replace S := hid (S.out.keep hb); clear hb))
    go_ret
    exact P.out _ _ rfl S.out.nil
end Go.Proofs.Ytpggbbjhbklamaa
