/-
  The statement IcmpBuilds, walked.
-/
import Derived.Test.YtpggbbjhbklamaaIcT
import Derived.Test.YtpggbbjhbklamaaIcV
import Derived.Test.YtpggbbjhbklamaaIcU
import Derived.Test.YtpggbbjhbklamaaWide
namespace Go.Proofs.Ytpggbbjhbklamaa
open Go.RowKit

theorem BB.no {e : Int} {w w' : World} (hb : Below w.heap.size w w') : BB e 0 [] w (.returned (.tuple #[.slice none 0 0, .int .i64 e])) w' :=
  ⟨none, 0, rfl, ((Sp.refl w).keep hb).nilrow 5 1⟩
/-- both Builds tell the same -/
theorem build_two {V Va : Int} {bs : List Int} {Vb : Int} {bs2 : List Int} {T C R : Int} {d : List Int} (h : IsA Va bs) (h2 : IsA Vb bs2) (hR : 0 ≤ R ∧ R ≤ 4294967295) (hd : Byt d) (hl : d.length ≤ 140737488355328) :
    ∃ E n L, Byt L ∧ (∀ W v, Rb W v d → Calls Try.prog 9 #[.agg (addrC Va bs), .agg (addrC Vb bs2), .agg (msgC V T C R v)] W (BB E n L W)) ∧ (∀ W v, Rb W v d → Calls Try.prog 10 #[.agg (addrC Va bs), .agg (addrC Vb bs2), .agg (msgC V T C R v)] W (BB E n L W)) := by
  by_cases hI : IRight V Va bs Vb bs2 T C
  · obtain ⟨hV, ha, hb, hT, hC⟩ := hI
    simp only [Bool.and_eq_true, beq_iff_eq] at ha hb
    obtain ⟨rfl, va⟩ := ha
    obtain ⟨rfl, vb⟩ := hb
    have hp : pairA Vb bs Vb bs2 = true := by unfold pairA; simp [va, vb]
    by_cases hn : (8 + d.length : Int) ≤ imost Vb
    · have him : imost Vb ≤ 65535 := by unfold imost; split <;> omega
      have hs := chkL_bd (V := Vb) h.byt h2.byt (iL_byt (s := 0) hT hC hR (by decide) hd) (by rw [iL_len]; omega)
      exact ⟨0, 8 + d.length, iB Vb bs bs2 T C R d, iL_byt hT hC hR hs hd, fun W v hv => ibuild_yes Vb bs bs2 T C R v d W h h2 hp hV hT hC hR hv hn,
        fun W v hv => (rbuild_right Vb bs bs2 T C R v d W h h2 hp hV hT hC hR hv hl).mono fun en w' hh => hh.2 hn⟩
    · exact ⟨3, 0, [], Byt.nil, fun W v hv => (ibuild_long Vb bs bs2 T C R v d W h h2 hp hV hT hC hv hl (by omega)).mono fun en w' hh => by obtain ⟨rfl, hb⟩ := hh; exact BB.no hb,
        fun W v hv => (rbuild_right Vb bs bs2 T C R v d W h h2 hp hV hT hC hR hv hl).mono fun en w' hh => by obtain ⟨rfl, hb⟩ := hh.1 (by omega); exact BB.no hb⟩
  · exact ⟨1, 0, [], Byt.nil, fun W v hv => (ibuild_bad V Va bs Vb bs2 T C R v d W h h2 hv hI).mono fun en w' hh => by obtain ⟨rfl, hb⟩ := hh; exact BB.no hb,
      fun W v hv => (rbuild_bad V Va bs Vb bs2 T C R v d W h h2 hv hI).mono fun en w' hh => by obtain ⟨rfl, hb⟩ := hh; exact BB.no hb⟩
theorem wpE_loadM {ops : Array Oper} {S : World → Prop} {Q : Exit → Act → World → Prop} {o : Oper} {t : OrdO} {a : Act} {w : World} (hg : Region.wanted o (yielded ops a.tmps) = true) (x : Operand) (ho : o.op = .load 28 x)
    (b : Nat) (cs : Array Value) (hx : a.eval x = .pointer (some ⟨b, 0, none⟩)) (hS : ∀ w', S w' → w'.heap[b]? = some (.cells cs 28 (0, 0))) (hz : (Try.prog.info? 28).map (·.size) = some cs.size) (h : wpE Try.prog ops S Q t (a.put o.dst (.agg cs)) w) : wpE Try.prog ops S Q (.weak o t) a w :=
  wpE_weak hg ⟨_, fun w' hw => by
    unfold execOp
    simp only [ho, hx, Instr.loadAt, Instr.sureAddr, Sem.run_bind, Sem.run_pure, Result.andThen_ok, run_loadVar_row w' b 28 28 cs (0, 0) _ (hS w' hw) Try.underlying28 rfl hz], h⟩
set_option maxHeartbeats 4000000 in
set_option maxRecDepth 20000 in
theorem icmpBuilds_any (Va : Int) (bs : List Int) (Vb : Int) (bs2 : List Int) (V T C R : Int) (bv : Value) (l : List Int) (w : World) (h : IsA Va bs) (h2 : IsA Vb bs2) (hR : 0 ≤ R ∧ R ≤ 4294967295) (hb : Rb w bv l) (hl : l.length ≤ 140737488355328) :
    Calls Try.prog 3 #[.agg (addrC Va bs), .agg (addrC Vb bs2), .agg (msgC V T C R bv)] w (APost w (.bool true)) := by
  have L1 := h.len
  have L2 := h2.len
  have HB := hid hb
  have YB := hb.byt
  obtain ⟨E, nL, L, YL, B1, B2⟩ := build_two (V := V) (T := T) (C := C) h h2 hR hb.byt hl
  replace B1 := hid B1
  replace B2 := hid B2
  have AL := hid alive8_any
  have OB := hid (fun W v (hv : Rb W v l) => ownB_any v l W hv hl)
  have SB := hid (fun W v u (m : List Int) (h1 : Rb W v m) (h2 : Rb W u m) => (show Calls Try.prog 11 #[v, u] W (SameP W true) from by have := sameB_any v u m m W h1 h2; rwa [decide_eq_true rfl] at this))
  have I1 := hid (fun W v => isErr_any V T C R v W)
  have I2 := hid (fun W v => risErr_any V T C R v W)
  generalize isErrB V T = e at *
  obtain ⟨n, hn⟩ : ∃ n, l.length = n := ⟨_, rfl⟩
  have YF : Byt (l ++ [165, 166]) := YB.append (by intro x hx; simp at hx; omega)
  have Y2 : Byt [165, 166] := by intro x hx; simp at hx; omega
  obtain ⟨ad, cd, rfl, hcd, hmd, _⟩ := hb.open
  unfold maxLen at hmd
  have TK : (l ++ [165, 166]).take n = l := by rw [← hn]; simp
  rw [hn] at HB OB hl
  rw [hn]
  have P := hid (fun en w' (h1 : en = .returned (.bool true)) (h2 : Sp w w' []) => show APost w (.bool true) en w' from ⟨h1, h2.bel⟩)
  have S : Hid (Sp w (((w.alloc (.cells (addrC Va bs) 24)).alloc (.cells (addrC Vb bs2) 24)).alloc (.cells (msgC V T C R (.slice ad n cd)) 28)) [.blk (w.heap.size + 2) (msgC V T C R (.slice ad n cd)) 28, .blk (w.heap.size + 1) (addrC Vb bs2) 24, .blk w.heap.size (addrC Va bs) 24]) := hid (Sp.in3 ..)
  have hnf : n ≤ (l ++ [165, 166]).length := by simp; omega
  have HN := hid hn
  clear h h2 hR hb hn
  go_enter Try.func3, Try.ntmps3
  go_upto_region 1 with fail
  generalize (((w.alloc (.cells (addrC Va bs) 24)).alloc (.cells (addrC Vb bs2) 24)).alloc (.cells (msgC V T C R (.slice ad n cd)) 28)) = w' at *
  generalize w.heap.size = b at *
  go_upto_region 5 with (first
    | go_skip
    | (((with_reducible show wpList _ _ _ (_ :: _) _ (World.alloc _ (.cells _ 5))); refine wpList_world fun w' hw2 => ?_; replace S := hid (S.out.lit (l := [165, 166]) (n := 2) hw2 rfl rfl (by decide)); clear hw2))
    | (((with_reducible show wpList _ _ _ (_ :: _) _ (World.alloc _ _)); refine wpList_world fun w' hw2 => ?_; replace S := hid (S.out.alloc hw2); clear hw2))
    | ((with_reducible show wpList _ _ _ _ _ _); first
        | ((with_reducible show wpList _ _ _ (⟨_, .load 28 _, _, _, _, _⟩ :: _) _ _); first | (refine wpList_getS (by rfl) _ _ rfl S.out _ rfl 2 _ _ rfl _ (by rfl) Try.underlying28 msg_info ?_))
        | ((with_reducible show wpList _ _ _ (⟨_, .load _ _, _, _, _, _⟩ :: _) _ _); refine wpList_getC (by rfl) _ _ rfl S.out _ _ rfl 0 _ _ rfl _ (msg_4 ..) (by rfl) ?_)
        | ((with_reducible show wpList _ _ _ (⟨_, .store _ _ _, _, _, _, _⟩ :: _) _ _); refine wpList_putS (by rfl) _ _ _ rfl rfl S.out _ (msgC V T C R (.slice ad n cd)) rfl rfl 0 28 _ rfl msg_info (by rfl) (msg_one rfl) ?_; intro w' hS; simp only [List.set] at hS; replace S := hid hS; clear hS)
        | (at_builtin; refine wpList_growW (by rfl) _ _ rfl S.out 1 rfl rfl _ [165, 166] rfl (S.out.rb 0 rfl Y2) (n + 2) (by rfl) (by omega) (by omega) ?_; rintro ca cc w' hS; simp only [List.set_cons_zero, List.set_cons_succ] at hS; replace S := hid hS; clear hS; have hcc := (S.out.cap 1 rfl).1))
    | (go_at_call 7; refine (AL.out _).mono ?_; rintro en w' ⟨rfl, hb⟩; replace S := hid (S.out.keep hb); clear hb)
    | (go_at_call 8; refine (OB.out _ _ (HB.out.below S.out.bel)).mono ?_; rintro en w' ⟨sz, cz, rfl, hS⟩; replace hS := S.out.call hS; simp only [List.cons_append, List.nil_append] at hS; replace S := hid hS; clear hS))
  (try simp only [Act.put, List.setIfInBounds_toArray, List.set_cons_zero, List.set_cons_succ])
  go_upto_region 8 with (first
    | go_skip
    | ((with_reducible show wpList _ _ _ _ _ _); first
        | ((with_reducible show wpList _ _ _ (⟨_, .load 24 _, _, _, _, _⟩ :: _) _ _); first | (refine wpList_getS (by rfl) _ _ rfl S.out _ rfl 4 _ _ rfl _ (by rfl) Try.underlying24 (by rw [addr_info]; exact congrArg some (addr_cells (by first | rfl | assumption)).symm) ?_) | (refine wpList_getS (by rfl) _ _ rfl S.out _ rfl 5 _ _ rfl _ (by rfl) Try.underlying24 (by rw [addr_info]; exact congrArg some (addr_cells (by first | rfl | assumption)).symm) ?_) | (refine wpList_getS (by rfl) _ _ rfl S.out _ rfl 6 _ _ rfl _ (by rfl) Try.underlying24 (by rw [addr_info]; exact congrArg some (addr_cells (by first | rfl | assumption)).symm) ?_))
        | ((with_reducible show wpList _ _ _ (⟨_, .load 28 _, _, _, _, _⟩ :: _) _ _); first | (refine wpList_getS (by rfl) _ _ rfl S.out _ rfl 0 _ _ rfl _ (by rfl) Try.underlying28 msg_info ?_) | (refine wpList_getS (by rfl) _ _ rfl S.out _ rfl 4 _ _ rfl _ (by rfl) Try.underlying28 msg_info ?_))
        | ((with_reducible show wpList _ _ _ (⟨_, .load _ _, _, _, _, _⟩ :: _) _ _); refine wpList_getC (by rfl) _ _ rfl S.out _ _ rfl 3 _ _ rfl _ (msg_4 ..) (by rfl) ?_)
        | ((with_reducible show wpList _ _ _ (⟨_, .slice _ _ _ _ _, _, _, _, _⟩ :: _) _ _); refine wpList_front (by rfl) _ _ rfl _ _ _ rfl _ _ rfl n rfl (by omega) ?_)
        | ((with_reducible show wpList _ _ _ (⟨_, .store _ _ _, _, _, _, _⟩ :: _) _ _); refine wpList_putC (by rfl) _ _ _ rfl rfl S.out _ _ rfl 0 [.int .i64 V, .int .i64 T, .int .i64 C, .int .u32 R, .slice ad n cd] _ rfl _ rfl rfl rfl (by rfl) (by simp) ?_; intro w' hS; simp only [List.set] at hS; replace S := hid hS; clear hS; replace S := hid (show Sp w _ (.blk _ (msgC V T C R (.slice ca n cc)) 28 :: _) from S.out)))
    | (go_at_call 9; refine (B1.out _ _ (by have := (S.out.rb 2 rfl YF).front n hnf; rw [TK] at this; exact this)).mono ?_; rintro en w' ⟨ca1, cc1, rfl, hS⟩; replace hS := S.out.call hS; simp only [List.cons_append, List.nil_append] at hS; replace S := hid hS; clear hS)
    | (go_at_call 10; refine (B2.out _ _ (HB.out.below S.out.bel)).mono ?_; rintro en w' ⟨ca2, cc2, rfl, hS⟩; replace hS := S.out.call hS; simp only [List.cons_append, List.nil_append] at hS; replace S := hid hS; clear hS))
  go_cut [6] from 41 (fun v wc => v = .bool true ∧ Sp w wc [])
  case first =>
    refine wp_region_ord (.weak 0 (.weak 1 (.strong 2 (.weak 3 (.weak 4 (.weak 5 (.weak 6 (.weak 7 (.weak 8 (.weak 9 (.weak 10 (.weak 11 (.two 12 13 (.strong 13 (.strong 14 (.strong 15 (.weak 16 (.weak 17 (.weak 18 (.weak 20 (.strong 19 (.strong 21 (.weak 22 (.weak 23 (.weak 24 (.done))))))))))))) (.strong 12 (.strong 14 (.strong 15 (.weak 16 (.weak 17 (.weak 18 (.weak 20 (.strong 19 (.strong 21 (.weak 22 (.weak 23 (.weak 24 (.done)))))))))))))))))))))))))) (fun W => Sp w W [.blk (b + 2) (msgC V T C R (.slice ad n cd)) 28]) (by kernel_rfl) (by kernel_rfl) (fun c a d v w h => by cases d <;> exact h) ?_ ?_
    · exact (S.out.same (Same.drew _)).sub (by repeat (first | exact List.Sublist.refl _ | exact List.nil_sublist _ | apply List.Sublist.cons_cons | apply List.Sublist.cons))
    replace S := hid (S.out.same (Same.drew w'))
    generalize w'.drew = w' at *
    simp only [Ord.pick, List.getElem?_cons_succ, List.getElem?_cons_zero]
    repeat' (first
      | ((with_reducible show wpE _ _ _ _ _ _ _); (first | (refine wpE_weak (by rfl) ?_; apply Exists.intro; refine ⟨fun wS hS => ?_, ?_⟩; (focus (have c4 := hS.cellC 0 rfl (msg_4 ..); go_simp; (try with_reducible rfl); done)); simp only [Act.put, List.setIfInBounds_toArray, List.set_cons_zero, List.set_cons_succ]) | (refine wpE_pass (by rfl) ?_; simp only [Act.put, List.setIfInBounds_toArray, List.set_cons_zero, List.set_cons_succ])))
      | ((with_reducible show wpE _ _ _ _ _ _ _); refine wpE_loadM (by rfl) _ rfl _ _ rfl (fun _ hS => hS.heap 0 rfl) msg_info ?_; (try simp only [Act.put, List.setIfInBounds_toArray, List.set_cons_zero, List.set_cons_succ]))
      | ((with_reducible show wpE _ _ _ _ _ _ _); refine wpE_strongL (by rfl) ?_)
      | ((with_reducible show wpE _ _ _ _ _ _ _); refine wpE_twoL (by rfl) (by rfl) ?_ ?_)
      | ((with_reducible show wpList _ _ _ _ _ _); go_wp2_with (first
        | go_skip
        | ((with_reducible show wpList _ _ _ _ _ _); (at_builtin; first
            | (refine wpList_growW (by rfl) _ _ rfl S.out 0 rfl rfl _ [165, 166] rfl (S.out.rb 1 rfl Y2) (n + 2) (by rfl) (by omega) (by omega) ?_; rintro ca3 cc3 w' hS; simp only [List.set_cons_zero, List.set_cons_succ] at hS; replace S := hid hS; clear hS)
            | (refine wpList_growW (by rfl) _ _ rfl S.out 1 rfl rfl _ [165, 166] rfl (S.out.rb 0 rfl Y2) (n + 2) (by rfl) (by omega) (by omega) ?_; rintro ca3 cc3 w' hS; simp only [List.set_cons_zero, List.set_cons_succ] at hS; replace S := hid hS; clear hS)))
        | (go_at_call 11; first
            | ((have M3 := M2); first | (refine (SB.out _ _ _ _ (S.out.rb 6 rfl YF) (S.out.rb 0 rfl YF)).mono ?_; rintro en w'' ⟨rfl, rfl⟩) | (refine (SB.out _ _ _ _ (S.out.rb 6 rfl YF) (S.out.rb 1 rfl YF)).mono ?_; rintro en w'' ⟨rfl, rfl⟩))
            | (refine (SB.out _ _ _ _ (S.out.rb 1 rfl YL) (S.out.rb 0 rfl YL)).mono ?_; have M2 := True.intro; rintro en w'' ⟨rfl, rfl⟩))
        | (go_at_call 8; refine (OB.out _ _ (HB.out.below S.out.bel)).mono ?_; rintro en w' ⟨sz3, cz3, rfl, hS⟩; replace hS := S.out.call hS; simp only [List.cons_append, List.nil_append] at hS; replace S := hid hS; clear hS)
        | (go_at_call 12; refine (I1.out _ _).mono ?_; rintro en w' ⟨rfl, hb⟩; replace S := hid (S.out.keep hb); clear hb)
        | (go_at_call 13; refine (I2.out _ _).mono ?_; rintro en w' ⟨rfl, hb⟩; replace S := hid (S.out.keep hb); clear hb)))
      | ((with_reducible show qEnd _ _ _ _ (World.alloc _ (.cells _ 5))); refine (fun (h : ∀ w2, w2 = World.alloc _ _ → qEnd _ _ .normal _ w2) => h _ rfl) ?_; intro w' hw2; replace S := hid (S.out.lit (l := [165, 166]) (n := 2) hw2 rfl rfl (by decide)); clear hw2)
      | ((with_reducible show qEnd _ _ _ _ _); refine qEnd_done (S.out.sub (by repeat (first | exact List.Sublist.refl _ | exact List.nil_sublist _ | apply List.Sublist.cons_cons | apply List.Sublist.cons))) ?_; (try simp only [Act.put, List.setIfInBounds_toArray, List.set_cons_zero, List.set_cons_succ]))
      | ((with_reducible show wpE _ _ _ _ _ _ _); refine wpE_done ?_; go_simp; go_step; go_meet))
    all_goals exact ⟨rfl, S.out.nil⟩
  case rest =>
  obtain ⟨rfl, hS⟩ := hcut
  go_wp2_with fail
  go_ret
  exact P.out _ _ rfl hS
end Go.Proofs.Ytpggbbjhbklamaa
