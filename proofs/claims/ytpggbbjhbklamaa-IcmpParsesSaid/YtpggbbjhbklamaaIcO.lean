/-
  The statement IcmpParses, walked.
-/
import Derived.Test.YtpggbbjhbklamaaIcU
import Derived.Test.YtpggbbjhbklamaaIcV
import Derived.Test.YtpggbbjhbklamaaWide
namespace Go.Proofs.Ytpggbbjhbklamaa
open Go.RowKit

/-- what both Parses tell -/
def IPP (V T C R : Int) (d : List Int) (n : Nat) (E : Int) (w : World) (en : Ending) (w' : World) : Prop :=
  ∃ sx cx, en = .returned (.tuple #[.agg (msgC V T C R (.slice sx n cx)), .int .i64 E]) ∧ Sp w w' [.row (.slice sx n cx) 5 1 n (bts d)]
theorem IPP.no {E : Int} {w w' : World} (hb : Below w.heap.size w w') : IPP 0 0 0 0 [] 0 E w (.returned (.tuple #[.agg msg0, .int .i64 E])) w' :=
  ⟨none, 0, rfl, ((Sp.refl w).keep hb).nilrow 5 1⟩
theorem parse_two {Va : Int} {bs : List Int} {Vb : Int} {bs2 : List Int} {l : List Int} (h : IsA Va bs) (h2 : IsA Vb bs2) (yl : Byt l) (hl : l.length ≤ 140737488355328) :
    ∃ V T C R d n E, Byt d ∧ (∀ W v, Rb W v l → Calls Try.prog 14 #[.agg (addrC Va bs), .agg (addrC Vb bs2), v] W (IPP V T C R d n E W)) ∧ (∀ W v, Rb W v l → Calls Try.prog 15 #[.agg (addrC Va bs), .agg (addrC Vb bs2), v] W (IPP V T C R d n E W)) := by
  cases ho : (((Va == Va) && validA Va bs) && ((Vb == Va) && validA Vb bs2)) with
  | false =>
    exact ⟨0, 0, 0, 0, [], 0, 1, Byt.nil, fun W v hv => (iparse_bad Va bs Vb bs2 v l W h h2 hv ho).mono fun en w' hh => by obtain ⟨rfl, hb⟩ := hh; exact IPP.no hb,
      fun W v hv => (rparse_bad Va bs Vb bs2 v l W h h2 hv ho).mono fun en w' hh => by obtain ⟨rfl, hb⟩ := hh; exact IPP.no hb⟩
  | true =>
    simp only [Bool.and_eq_true, beq_iff_eq] at ho
    obtain ⟨⟨-, va⟩, rfl, vb⟩ := ho
    have hp : pairA Vb bs Vb bs2 = true := by unfold pairA; simp [va, vb]
    by_cases he : iE Vb bs bs2 l = 0
    · have key : ∀ W en w', IPost Vb bs bs2 l W en w' → IPP Vb (gt l 0) (gt l 1) (iR l) (l.drop 8) (l.length - 8) 0 W en w' := fun W en w' hh => hh.2 he
      exact ⟨_, _, _, _, _, _, _, yl.drop 8, fun W v hv => (iparse_any Vb bs bs2 v l W h h2 hp hv hl).mono (key W), fun W v hv => (rparse_any Vb bs bs2 v l W h h2 hp hv hl).mono (key W)⟩
    · have key : ∀ W en w', IPost Vb bs bs2 l W en w' → IPP 0 0 0 0 [] 0 (iE Vb bs bs2 l) W en w' := fun W en w' hh => by obtain ⟨rfl, hb⟩ := hh.1 he; exact IPP.no hb
      exact ⟨_, _, _, _, _, _, _, Byt.nil, fun W v hv => (iparse_any Vb bs bs2 v l W h h2 hp hv hl).mono (key W), fun W v hv => (rparse_any Vb bs bs2 v l W h h2 hp hv hl).mono (key W)⟩
theorem wpE_load_adr {ops : Array Oper} {S : World → Prop} {Q : Exit → Act → World → Prop} {o : Oper} {t : OrdO} {a : Act} {w : World} (hg : Region.wanted o (yielded ops a.tmps) = true) (x : Operand) (ho : o.op = .load 24 x)
    (b : Nat) (V : Int) (bs : List Int) (hx : a.eval x = .pointer (some ⟨b, 0, none⟩)) (hS : ∀ w', S w' → AddrAt w' b V bs) (hl : bs.length = 16) (h : wpE Try.prog ops S Q t (a.put o.dst (.agg (addrC V bs))) w) : wpE Try.prog ops S Q (.weak o t) a w :=
  wpE_weak hg ⟨_, fun w' hw => by
    unfold execOp
    simp only [ho, hx, Instr.loadAt, Instr.sureAddr, Sem.run_bind, Sem.run_pure, Result.andThen_ok, run_loadVar_row w' b 24 24 (addrC V bs) (0, 0) _ (hS w' hw) Try.underlying24 rfl (by rw [addr_info]; simp [addrC, bts_length, hl])], h⟩
set_option maxHeartbeats 4000000 in
set_option maxRecDepth 20000 in
theorem icmpParses_any (Va : Int) (bs : List Int) (Vb : Int) (bs2 : List Int) (bv : Value) (l : List Int) (w : World) (h : IsA Va bs) (h2 : IsA Vb bs2) (hb : Rb w bv l) (hl : l.length ≤ 140737488355328) :
    Calls Try.prog 4 #[.agg (addrC Va bs), .agg (addrC Vb bs2), bv] w (APost w (.bool true)) := by
  have L1 := h.len
  have L2 := h2.len
  have HB := hid hb
  have YB := hb.byt
  obtain ⟨V, T, C, R, d, nd, E, YD, B1, B2⟩ := parse_two h h2 hb.byt hl
  replace B1 := hid B1
  replace B2 := hid B2
  have AL := hid alive8_any
  have OB := hid (fun W v (hv : Rb W v l) => ownB_any v l W hv hl)
  have SB := hid (fun W v u (m : List Int) (h1 : Rb W v m) (h2 : Rb W u m) => (show Calls Try.prog 11 #[v, u] W (SameP W true) from by have := sameB_any v u m m W h1 h2; rwa [decide_eq_true rfl] at this))
  have SM := hid (fun W v u (h1 : Rb W v d) (h2 : Rb W u d) => sameM_true V T C R v u d W h1 h2)
  obtain ⟨n, hn⟩ : ∃ n, l.length = n := ⟨_, rfl⟩
  have YF : Byt (l ++ [165, 166]) := YB.append (by intro x hx; simp at hx; omega)
  have Y2 : Byt [165, 166] := by intro x hx; simp at hx; omega
  obtain ⟨ad, cd, rfl, hcd, hmd, _⟩ := hb.open
  unfold maxLen at hmd
  have TK : (l ++ [165, 166]).take n = l := by rw [← hn]; simp
  rw [hn] at HB OB hl
  rw [hn]
  have hnf : n ≤ (l ++ [165, 166]).length := by simp; omega
  have HN := hid hn
  have P := hid (fun en w' (h1 : en = .returned (.bool true)) (h2 : Sp w w' []) => show APost w (.bool true) en w' from ⟨h1, h2.bel⟩)
  have S : Hid (Sp w ((w.alloc (.cells (addrC Va bs) 24)).alloc (.cells (addrC Vb bs2) 24)) [.blk (w.heap.size + 1) (addrC Vb bs2) 24, .blk w.heap.size (addrC Va bs) 24]) := hid (Sp.in2 ..)
  clear h h2 hb hn
  go_enter Try.func4, Try.ntmps4
  go_upto_region 1 with fail
  generalize ((w.alloc (.cells (addrC Va bs) 24)).alloc (.cells (addrC Vb bs2) 24)) = w' at *
  generalize w.heap.size = b at *
  go_upto_region 4 with (first
    | go_skip
    | (((with_reducible show wpList _ _ _ (_ :: _) _ (World.alloc _ (.cells _ 5))); refine wpList_world fun w' hw2 => ?_; replace S := hid (S.out.lit (l := [165, 166]) (n := 2) hw2 rfl rfl (by decide)); clear hw2))
    | ((with_reducible show wpList _ _ _ _ _ _); (at_builtin; refine wpList_growW (by rfl) _ _ rfl S.out 1 rfl rfl _ [165, 166] rfl (S.out.rb 0 rfl Y2) (n + 2) (by rfl) (by omega) (by omega) ?_; rintro ca cc w' hS; simp only [List.set_cons_zero, List.set_cons_succ] at hS; replace S := hid hS; clear hS; have hcc := (S.out.cap 1 rfl).1))
    | (go_at_call 7; refine (AL.out _).mono ?_; rintro en w' ⟨rfl, hb⟩; replace S := hid (S.out.keep hb); clear hb)
    | (go_at_call 8; refine (OB.out _ _ (HB.out.below S.out.bel)).mono ?_; rintro en w' ⟨sz, cz, rfl, hS⟩; replace hS := S.out.call hS; simp only [List.cons_append, List.nil_append] at hS; replace S := hid hS; clear hS))
  have h3 : (n : Int) ≤ (cc : Int) := by omega
  have h4 : n ≤ cc := by omega
  go_cut [8, 9] from 18 (fun v e wc => ∃ b8 sx cx, v = .pointer (some ⟨b8, 0, none⟩) ∧ e = .int .i64 E ∧ Sp w wc [.blk b8 (msgC V T C R (.slice sx nd cx)) 28, .row (.slice sx nd cx) 5 1 nd (bts d), .row (.slice ca (n + 2) cc) 5 1 (n + 2) (bts (l ++ [165, 166])), .blk (b + 1) (addrC Vb bs2) 24, .blk b (addrC Va bs) 24])
  case first =>
    refine wp_region_ord (.weak 0 (.weak 1 (.weak 2 (.weak 3 (.weak 4 (.weak 5 (.two 6 10 (.weak 7 (.weak 8 (.weak 9 (.strong 10 (.strong 11 (.weak 12 (.done))))))) (.strong 6 (.weak 7 (.weak 8 (.weak 9 (.strong 11 (.weak 12 (.done)))))))))))))) (fun W => Sp w W [.blk (b + 1) (addrC Vb bs2) 24, .blk b (addrC Va bs) 24]) (by kernel_rfl) (by kernel_rfl) (fun c a d v w h => by cases d <;> exact h) ?_ ?_
    · exact (S.out.same (Same.drew _)).sub (by repeat (first | exact List.Sublist.refl _ | exact List.nil_sublist _ | apply List.Sublist.cons_cons | apply List.Sublist.cons))
    replace S := hid ((S.out.same (Same.drew w')).sub (show [.row (.slice ca (n + 2) cc) 5 1 (n + 2) (bts (l ++ [165, 166])), .blk (b + 1) (addrC Vb bs2) 24, .blk b (addrC Va bs) 24].Sublist _ from (by repeat (first | exact List.Sublist.refl _ | exact List.nil_sublist _ | apply List.Sublist.cons_cons | apply List.Sublist.cons))))
    generalize w'.drew = w' at *
    simp only [Ord.pick, List.getElem?_cons_succ, List.getElem?_cons_zero]
    refine wpE_load_adr (by rfl) _ rfl _ _ _ rfl (fun _ hS => hS.heap 1 rfl) L1 ?_
    refine wpE_load_adr (by rfl) _ rfl _ _ _ rfl (fun _ hS => hS.heap 0 rfl) L2 ?_
    (try simp only [Act.put, List.setIfInBounds_toArray, List.set_cons_zero, List.set_cons_succ])
    repeat' (first
      | ((with_reducible show wpE _ _ _ _ _ _ _); (first | (refine wpE_weak (by rfl) ?_; apply Exists.intro; refine ⟨fun wS hS => ?_, ?_⟩; (focus (go_simp; (try with_reducible rfl); done)); simp only [Act.put, List.setIfInBounds_toArray, List.set_cons_zero, List.set_cons_succ]) | (refine wpE_pass (by rfl) ?_; simp only [Act.put, List.setIfInBounds_toArray, List.set_cons_zero, List.set_cons_succ])))
      | ((with_reducible show wpE _ _ _ _ _ _ _); refine wpE_strongL (by rfl) ?_)
      | ((with_reducible show wpE _ _ _ _ _ _ _); refine wpE_twoL (by rfl) (by rfl) ?_ ?_)
      | ((with_reducible show wpList _ _ _ _ _ _); go_wp2_with (first
        | go_skip
        | ((with_reducible show wpList _ _ _ _ _ _); ((with_reducible show wpList _ _ _ (⟨_, .store _ _ _, _, _, _, _⟩ :: _) _ _); first | (refine wpList_putS (by rfl) _ _ _ rfl rfl S.out _ (msgC V T C R (.slice _ nd _)) rfl rfl 0 28 _ rfl msg_info (by rfl) (msg_one rfl) ?_; intro w' hS; simp only [List.set] at hS; replace S := hid hS; clear hS) | (refine wpList_putS (by rfl) _ _ _ rfl rfl S.out _ (msgC V T C R (.slice _ nd _)) rfl rfl 1 28 _ rfl msg_info (by rfl) (msg_one rfl) ?_; intro w' hS; simp only [List.set] at hS; replace S := hid hS; clear hS)))
        | (go_at_call 14; refine (B1.out _ _ (by first | (have := (S.out.rb 0 rfl YF).front n hnf; rw [TK] at this; exact this) | (have := (S.out.rb 1 rfl YF).front n hnf; rw [TK] at this; exact this))).mono ?_; rintro en w' ⟨sx, cx, rfl, hS⟩; replace hS := S.out.call hS; simp only [List.cons_append, List.nil_append] at hS; replace S := hid hS; clear hS)))
      | ((with_reducible show qEnd _ _ _ _ (World.alloc _ _)); refine (fun (h : ∀ w2, w2 = World.alloc _ _ → qEnd _ _ .normal _ w2) => h _ rfl) ?_; intro w' hw2; replace S := hid (S.out.alloc hw2); clear hw2)
      | ((with_reducible show qEnd _ _ _ _ _); refine qEnd_done (S.out.sub (by repeat (first | exact List.Sublist.refl _ | exact List.nil_sublist _ | apply List.Sublist.cons_cons | apply List.Sublist.cons))) ?_; (try simp only [Act.put, List.setIfInBounds_toArray, List.set_cons_zero, List.set_cons_succ]))
      | ((with_reducible show wpE _ _ _ _ _ _ _); refine wpE_done ?_; go_simp; go_step; go_meet))
    all_goals first | (have hq := S.out.heap 0 rfl; clear hq; refine ⟨_, sx, cx, rfl, rfl, S.out.sub ?_⟩; ((repeat (first | exact List.Sublist.refl _ | exact List.nil_sublist _ | apply List.Sublist.cons_cons | apply List.Sublist.cons)); done)) | (have hq := S.out.heap 1 rfl; clear hq; refine ⟨_, sx, cx, rfl, rfl, (S.out.perm (List.Perm.swap _ _ _)).sub ?_⟩; ((repeat (first | exact List.Sublist.refl _ | exact List.nil_sublist _ | apply List.Sublist.cons_cons | apply List.Sublist.cons)); done))
  case rest =>
  obtain ⟨b8, sx, cx, rfl, rfl, hS⟩ := hcut
  replace S := hid hS
  clear hS h3 h4
  go_wp2_with (first
    | go_skip
    | (((with_reducible show wpList _ _ _ (_ :: _) _ (World.alloc _ (.cells _ 5))); refine wpList_world fun w' hw2 => ?_; replace S := hid (S.out.lit (l := [165, 166]) (n := 2) hw2 rfl rfl (by decide)); clear hw2))
    | (((with_reducible show wpList _ _ _ (_ :: _) _ (World.alloc _ _)); refine wpList_world fun w' hw2 => ?_; replace S := hid (S.out.alloc hw2); clear hw2))
    | ((with_reducible show wpList _ _ _ _ _ _); first
        | ((with_reducible show wpList _ _ _ (⟨_, .load 24 _, _, _, _, _⟩ :: _) _ _); first | (refine wpList_getS (by rfl) _ _ rfl S.out _ rfl 3 _ _ rfl _ (by rfl) Try.underlying24 (by rw [addr_info]; exact congrArg some (addr_cells (by first | rfl | assumption)).symm) ?_) | (refine wpList_getS (by rfl) _ _ rfl S.out _ rfl 4 _ _ rfl _ (by rfl) Try.underlying24 (by rw [addr_info]; exact congrArg some (addr_cells (by first | rfl | assumption)).symm) ?_))
        | ((with_reducible show wpList _ _ _ (⟨_, .load 28 _, _, _, _, _⟩ :: _) _ _); first | (refine wpList_getS (by rfl) _ _ rfl S.out _ rfl 0 _ _ rfl _ (by rfl) Try.underlying28 msg_info ?_) | (refine wpList_getS (by rfl) _ _ rfl S.out _ rfl 2 _ _ rfl _ (by rfl) Try.underlying28 msg_info ?_))
        | ((with_reducible show wpList _ _ _ (⟨_, .store _ _ _, _, _, _, _⟩ :: _) _ _); refine wpList_putS (by rfl) _ _ _ rfl rfl S.out _ (msgC V T C R (.slice _ nd _)) rfl rfl 0 28 _ rfl msg_info (by rfl) (msg_one rfl) ?_; intro w' hS; simp only [List.set] at hS; replace S := hid hS; clear hS)
        | (at_builtin; refine wpList_growW (by rfl) _ _ rfl S.out 1 rfl rfl _ [165, 166] rfl (S.out.rb 0 rfl Y2) (n + 2) (by rfl) (by omega) (by omega) ?_; rintro ca3 cc3 w' hS; simp only [List.set_cons_zero, List.set_cons_succ] at hS; replace S := hid hS; clear hS))
    | (go_at_call 15; refine (B2.out _ _ (HB.out.below S.out.bel)).mono ?_; rintro en w' ⟨sx2, cx2, rfl, hS⟩; replace hS := S.out.call hS; simp only [List.cons_append, List.nil_append] at hS; replace S := hid hS; clear hS)
    | (go_at_call 16; refine (SM.out _ _ _ (S.out.rb 3 rfl YD) (S.out.rb 1 rfl YD)).mono ?_; rintro en w' ⟨rfl, hb⟩; replace S := hid (S.out.keep hb); clear hb)
    | (go_at_call 8; refine (OB.out _ _ (HB.out.below S.out.bel)).mono ?_; rintro en w' ⟨sz3, cz3, rfl, hS⟩; replace hS := S.out.call hS; simp only [List.cons_append, List.nil_append] at hS; replace S := hid hS; clear hS)
    | (go_at_call 11; refine (SB.out _ _ _ _ (S.out.rb 6 rfl YF) (S.out.rb 1 rfl YF)).mono ?_; rintro en w'' ⟨rfl, rfl⟩))
  go_ret
  exact P.out _ _ rfl S.out.nil
end Go.Proofs.Ytpggbbjhbklamaa
