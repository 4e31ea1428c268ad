/-
  The statement IcmpTurned, walked.
-/
import Derived.Test.YtpggbbjhbklamaaIcX
import Derived.Test.YtpggbbjhbklamaaStillT
namespace Go.Proofs.Ytpggbbjhbklamaa
open Go.RowKit

theorem turn_place (a : Int) {n : Nat} (h : 1 ≤ n) (hn : n ≤ 65535) : ∃ r : Int, a.tmod (8 * (n : Int)) = r ∧ -(8 * (n : Int)) < r ∧ r < 8 * (n : Int) := by
  refine ⟨_, rfl, ?_⟩
  have h0 : (0 : Int) < 8 * (n : Int) := by omega
  constructor
  · have := Int.lt_tmod_of_pos a h0
    omega
  · exact Int.tmod_lt_of_pos a h0
theorem turn_split {n nb : Nat} (h : n < 8 * nb) (hb : nb ≤ 65535) : ∃ k j : Nat, (j < 8 ∧ k < nb) ∧ (n : Int).tdiv 8 = (k : Int) ∧ (n : Int).tmod 8 = (j : Int) ∧ wrap64 (k : Int) = k ∧ IntKind.i64.wrap (k : Int) = k ∧ IntKind.i64.wrap (j : Int) = j ∧ (k : Int) < (nb : Int) := by
  refine ⟨n / 8, n % 8, by omega, ?_, ?_, IntWalk.wrap64_in _ (by omega), IntWalk.i64_in _ (by omega), IntWalk.i64_in _ (by omega), by omega⟩
  · rw [Int.tdiv_eq_ediv_of_nonneg (by omega)]; omega
  · rw [Int.tmod_eq_emod_of_nonneg (by omega)]; omega
theorem bit_u8 {j : Nat} (h : j < 8) : 1 ≤ IntKind.u8.wrap (2 ^ j) ∧ IntKind.u8.wrap (2 ^ j) ≤ 255 := by
  have : ∀ j : Fin 8, 1 ≤ IntKind.u8.wrap (2 ^ j.1) ∧ IntKind.u8.wrap (2 ^ j.1) ≤ 255 := by decide
  exact this ⟨j, h⟩
/-- a right message's bytes -/
structure RM (V : Int) (A B : List Int) (T C R : Int) (d bl : List Int) (n nb : Nat) : Prop where
  bld : ∀ W v, Rb W v d → Calls Try.prog 9 #[.agg (addrC V A), .agg (addrC V B), .agg (msgC V T C R v)] W (BB 0 nb bl W)
  trn : ∀ k x, k < nb → (0 ≤ x ∧ x ≤ 255) → x ≠ gt bl k → ∀ W v, Rb W v (bl.set k x) → Calls Try.prog 14 #[.agg (addrC V A), .agg (addrC V B), v] W (APost W (.tuple #[.agg msg0, .int .i64 52]))
  yd : Byt d
  yb : Byt bl
  lb : bl.length = nb
  small : 8 ≤ nb ∧ nb ≤ 65535
theorem rm_of {V : Int} {A B : List Int} {T C R : Int} {d : List Int} {n : Nat} (hA : IsA V A) (hB : IsA V B) (hp : pairA V A V B = true) (hV : V = 4 ∨ V = 6) (hT : 0 ≤ T ∧ T ≤ 255) (hC : 0 ≤ C ∧ C ≤ 255) (hR : 0 ≤ R ∧ R ≤ 4294967295) (hd : Byt d) (hn : d.length = n) (hm : n ≤ 65507) :
    RM V A B T C R d (iB V A B T C R d) n (8 + n) := by
  subst hn
  have him : (65515 : Int) ≤ imost V ∧ imost V ≤ 65535 := by unfold imost; split <;> omega
  obtain ⟨e1, e2, e3, e4, e5, e6⟩ := i_back (V := V) hA.byt hB.byt hT hC hR hd (by omega) him.2
  have hs := chkL_bd (V := V) hA.byt hB.byt (iL_byt (s := 0) hT hC hR (by decide) hd) (by rw [iL_len]; omega)
  have yb : Byt (iB V A B T C R d) := iL_byt hT hC hR hs hd
  refine ⟨fun W v hv => ibuild_yes V A B T C R v d W hA hB hp hV hT hC hR hv (by omega), fun k x hk hx hne W v hv => ?_, hd, yb, e6, by omega⟩
  have h52 := i_turn hA.byt hB.byt yb e1 him.2 (by rw [e6]; exact hk) hx hne
  have := iparse_any V A B v _ W hA hB hp hv (by rw [List.length_set, e6]; omega)
  refine this.mono fun en w' hh => ?_
  have := hh.1 (by rw [h52]; decide)
  rw [h52] at this
  exact this
set_option maxHeartbeats 1000000 in
set_option maxRecDepth 20000 in
theorem icmpTurned_any (Va : Int) (bs : List Int) (Vb : Int) (bs2 : List Int) (V T C R : Int) (bv : Value) (l : List Int) (at_ : Int) (w : World) (h : IsA Va bs) (h2 : IsA Vb bs2) (hR : 0 ≤ R ∧ R ≤ 4294967295) (hb : Rb w bv l) (hl : l.length ≤ 140737488355328) (_ : -9223372036854775808 ≤ at_ ∧ at_ ≤ 9223372036854775807) :
    Calls Try.prog 6 #[.agg (addrC Va bs), .agg (addrC Vb bs2), .agg (msgC V T C R bv), .int .i64 at_] w (APost w (.bool true)) := by
  have L1 := h.len
  have L2 := h2.len
  have HB := hid hb
  obtain ⟨ad, cd, rfl, _, hmd, _⟩ := hb.open
  unfold maxLen at hmd
  have MD := hid (fun W (hv : Rb W (.slice ad l.length cd) l) => mend8_any V T C R _ l W hv hl)
  unfold MPost at MD
  have AL := hid alive8_any
  have PR := hid (fun U W (hU : U = 4 ∨ U = 6) => (show Calls Try.prog 18 #[.int .i64 U, .agg (addrC Va bs), .agg (addrC Vb bs2)] W (fun en w' => ∃ A B, en = .returned (.tuple #[.agg (addrC U A), .agg (addrC U B)]) ∧ Below W.heap.size W w' ∧ IsA U A ∧ IsA U B ∧ pairA U A U B = true) from
    (pair8_any U Va Vb bs bs2 W h h2 hU).mono fun en w' hh => ⟨_, _, hh.1, hh.2, (pB_is h hU).1, (pB_is h2 hU).1, pB_pair h h2 hU⟩))
  have HR := hid hR
  have SZ := hid (fun W => sameM_true 0 0 0 0 (.slice none 0 0) (.slice none 0 0) [] W (Rb.nil W) (Rb.nil W))
  have P := hid (fun en w' (h1 : en = .returned (.bool true)) (h2 : Sp w w' []) => show APost w (.bool true) en w' from ⟨h1, h2.bel⟩)
  have S : Hid (Sp w (((w.alloc (.cells (addrC Va bs) 24)).alloc (.cells (addrC Vb bs2) 24)).alloc (.cells (msgC V T C R (.slice ad l.length cd)) 28)) [.blk (w.heap.size + 2) (msgC V T C R (.slice ad l.length cd)) 28, .blk (w.heap.size + 1) (addrC Vb bs2) 24, .blk w.heap.size (addrC Va bs) 24]) := hid (Sp.in3 ..)
  clear h h2 hR hb hl
  go_enter Try.func6, Try.ntmps6
  go_upto_region 1 with fail
  generalize (((w.alloc (.cells (addrC Va bs) 24)).alloc (.cells (addrC Vb bs2) 24)).alloc (.cells (msgC V T C R (.slice ad l.length cd)) 28)) = w' at *
  generalize w.heap.size = b at *
  go_upto_region 4 with (first
    | go_skip
    | (((with_reducible show wpList _ _ _ (_ :: _) _ (World.alloc _ _)); refine wpList_world fun w' hw2 => ?_; replace S := hid (S.out.alloc hw2); clear hw2))
    | ((with_reducible show wpList _ _ _ _ _ _); first
        | ((with_reducible show wpList _ _ _ (⟨_, .load 28 _, _, _, _, _⟩ :: _) _ _); first | (refine wpList_getS (by rfl) _ _ rfl S.out _ rfl 0 _ _ rfl _ (by rfl) Try.underlying28 msg_info ?_) | (refine wpList_getS (by rfl) _ _ rfl S.out _ rfl 1 _ _ rfl _ (by rfl) Try.underlying28 msg_info ?_) | (refine wpList_getS (by rfl) _ _ rfl S.out _ rfl 2 _ _ rfl _ (by rfl) Try.underlying28 msg_info ?_) | (refine wpList_getS (by rfl) _ _ rfl S.out _ rfl 3 _ _ rfl _ (by rfl) Try.underlying28 msg_info ?_) | (refine wpList_getS (by rfl) _ _ rfl S.out _ rfl 4 _ _ rfl _ (by rfl) Try.underlying28 msg_info ?_) | (refine wpList_getS (by rfl) _ _ rfl S.out _ rfl 5 _ _ rfl _ (by rfl) Try.underlying28 msg_info ?_))
        | ((with_reducible show wpList _ _ _ (⟨_, .store _ _ _, _, _, _, _⟩ :: _) _ _); refine wpList_putS (by rfl) _ _ _ rfl rfl S.out _ (msgC _ _ _ R (.slice _ _ _)) rfl rfl 0 28 _ rfl msg_info (by rfl) (msg_one rfl) ?_; intro w' hS; simp only [List.set] at hS; replace S := hid hS; clear hS))
    | (go_at_call 7; refine (AL.out _).mono ?_; rintro en w' ⟨rfl, hb⟩; replace S := hid (S.out.keep hb); clear hb)
    | (go_at_call 17; refine (MD.out _ (HB.out.below S.out.bel)).mono ?_; rintro en w' ⟨V2, T2, C2, d, n, so, co, rfl, hS, hV, hT, hC, yd, hn, hm⟩; have HV := hid hV; have HT := hid hT; have HC := hid hC; have HN := hid (And.intro hn hm); clear hV hT hC hn hm; replace hS := S.out.call hS; simp only [List.cons_append, List.nil_append] at hS; replace S := hid hS; clear hS))
  (try simp only [Act.put, List.setIfInBounds_toArray, List.set_cons_zero, List.set_cons_succ])
  go_upto_region 8 with (first
    | go_skip
    | (((with_reducible show wpList _ _ _ (_ :: _) _ (World.alloc _ _)); refine wpList_world fun w' hw2 => ?_; replace S := hid (S.out.alloc hw2); clear hw2))
    | ((with_reducible show wpList _ _ _ _ _ _); first
        | ((with_reducible show wpList _ _ _ (⟨_, .load 24 _, _, _, _, _⟩ :: _) _ _); first | (refine wpList_getS (by rfl) _ _ rfl S.out _ rfl 0 _ _ rfl _ (by rfl) Try.underlying24 (by rw [addr_info]; exact congrArg some (addr_cells (by first | rfl | assumption)).symm) ?_) | (refine wpList_getS (by rfl) _ _ rfl S.out _ rfl 1 _ _ rfl _ (by rfl) Try.underlying24 (by rw [addr_info]; exact congrArg some (addr_cells (by first | rfl | assumption)).symm) ?_) | (refine wpList_getS (by rfl) _ _ rfl S.out _ rfl 2 _ _ rfl _ (by rfl) Try.underlying24 (by rw [addr_info]; exact congrArg some (addr_cells (by first | rfl | assumption)).symm) ?_) | (refine wpList_getS (by rfl) _ _ rfl S.out _ rfl 3 _ _ rfl _ (by rfl) Try.underlying24 (by rw [addr_info]; exact congrArg some (addr_cells (by first | rfl | assumption)).symm) ?_) | (refine wpList_getS (by rfl) _ _ rfl S.out _ rfl 4 _ _ rfl _ (by rfl) Try.underlying24 (by rw [addr_info]; exact congrArg some (addr_cells (by first | rfl | assumption)).symm) ?_) | (refine wpList_getS (by rfl) _ _ rfl S.out _ rfl 5 _ _ rfl _ (by rfl) Try.underlying24 (by rw [addr_info]; exact congrArg some (addr_cells (by first | rfl | assumption)).symm) ?_))
        | ((with_reducible show wpList _ _ _ (⟨_, .load 28 _, _, _, _, _⟩ :: _) _ _); first | (refine wpList_getS (by rfl) _ _ rfl S.out _ rfl 0 _ _ rfl _ (by rfl) Try.underlying28 msg_info ?_) | (refine wpList_getS (by rfl) _ _ rfl S.out _ rfl 1 _ _ rfl _ (by rfl) Try.underlying28 msg_info ?_) | (refine wpList_getS (by rfl) _ _ rfl S.out _ rfl 2 _ _ rfl _ (by rfl) Try.underlying28 msg_info ?_) | (refine wpList_getS (by rfl) _ _ rfl S.out _ rfl 3 _ _ rfl _ (by rfl) Try.underlying28 msg_info ?_) | (refine wpList_getS (by rfl) _ _ rfl S.out _ rfl 4 _ _ rfl _ (by rfl) Try.underlying28 msg_info ?_) | (refine wpList_getS (by rfl) _ _ rfl S.out _ rfl 5 _ _ rfl _ (by rfl) Try.underlying28 msg_info ?_))
        | ((with_reducible show wpList _ _ _ (⟨_, .load _ _, _, _, _, _⟩ :: _) _ _); refine wpList_getC (by rfl) _ _ rfl S.out _ _ rfl 0 _ _ rfl _ (msg_0 ..) (by rfl) ?_)
        | ((with_reducible show wpList _ _ _ (⟨_, .store _ _ _, _, _, _, _⟩ :: _) _ _); first
            | (refine wpList_putS (by rfl) _ _ _ rfl rfl S.out _ (addrC V2 A) rfl rfl 1 24 _ rfl (by rw [addr_info]; exact congrArg some (addr_cells LA).symm) (by rw [addr_cells LA]; rfl) (addrC_one _ _) ?_; intro w' hS; simp only [List.set] at hS; replace S := hid hS; clear hS)
            | (refine wpList_putS (by rfl) _ _ _ rfl rfl S.out _ (addrC V2 B) rfl rfl 0 24 _ rfl (by rw [addr_info]; exact congrArg some (addr_cells LB).symm) (by rw [addr_cells LB]; rfl) (addrC_one _ _) ?_; intro w' hS; simp only [List.set] at hS; replace S := hid hS; clear hS)))
    | (go_at_call 18; refine (PR.out _ _ HV.out).mono ?_; rintro en w' ⟨A, B, rfl, hb, hA, hB, hp⟩; have LA := hA.len; have LB := hB.len; obtain ⟨bl, nb, hM⟩ : ∃ bl nb, RM V2 A B T2 C2 R d bl n nb := ⟨_, _, rm_of hA hB hp HV.out HT.out HC.out HR.out yd HN.out.1 HN.out.2⟩; have M := hid hM; have d8 : decide ((nb : Int) < 8) = false := (by have := hM.small; simp; omega); replace S := hid (S.out.keep hb); clear hA hB hp hb hM)
    | (go_at_call 9; refine (M.out.bld _ _ (S.out.rb 3 rfl yd)).mono ?_; rintro en w' ⟨ca, cc, rfl, hS⟩; replace hS := S.out.call hS; simp only [List.cons_append, List.nil_append] at hS; replace S := hid hS; clear hS))
  have YB := M.out.yb
  have lb := M.out.lb
  obtain ⟨hs8, hsm⟩ := M.out.small
  have hnb0 : 0 < nb := Nat.lt_of_lt_of_le (by decide) hs8
  obtain ⟨r, er, hr0, hr1⟩ := turn_place at_ (n := nb) hnb0 hsm
  have e8 : wrap64 (8 * (nb : Int)) = 8 * (nb : Int) := IntWalk.wrap64_in _ (by omega)
  have n8' : ¬ 8 * (nb : Int) = 0 := by omega
  go_upto_if 49 with (first | go_skip)
  go_cut [14] from 15 (fun v wc => ∃ m : Nat, m < 8 * nb ∧ v = .int .i64 (m : Int) ∧ w' = wc)
  case first =>
    by_cases hneg : r < 0
    · have e10 : wrap64 (-r) = -r := IntWalk.wrap64_in _ (by omega)
      go_wp2_with (first | go_skip)
      go_meet
      exact ⟨(-r).toNat, by omega, by rw [Int.toNat_of_nonneg (by omega)], rfl⟩
    · go_wp2_with (first | go_skip)
      go_meet
      exact ⟨r.toNat, by omega, by rw [Int.toNat_of_nonneg (by omega)], rfl⟩
  case rest =>
  obtain ⟨m, hm, rfl, rfl⟩ := hcut
  clear er e8 n8' hr0 hr1 d8
  obtain ⟨k, j, ⟨hj8, hkn⟩, t1, t2, t3, t4, t5, hki⟩ := turn_split hm hsm
  clear hm
  obtain ⟨g1, c1, hv⟩ := S.out.rowopen 0 rfl hnb0
  simp only [Value.slice.injEq, true_and] at hv
  obtain ⟨rfl, rfl⟩ := hv
  have YK := YB.bd k
  go_upto_region 11 with fail
  refine wp_still_tail' 13 (by kernel_rfl) (by kernel_rfl) fun w' hS => ?_
  replace S := hid (S.out.same hS)
  clear hS
  have z := S.out.rowcell 0 rfl (j := k) (by rw [lb]; exact hkn)
  simp only [List.take_succ_cons, List.take_zero, List.drop_succ_cons, List.drop_zero]
  (repeat still_step)
  clear z
  refine wpStill_nil ?_
  refine wpList_put_row (by rfl) _ _ rfl rfl S.out _ _ rfl _ rfl 0 _ _ _ rfl hkn ?_; intro w' hS; simp only [List.set] at hS; replace S := hid hS; clear hS
  obtain ⟨bt, hbt⟩ : ∃ bt, IntKind.u8.wrap (2 ^ j) = bt := ⟨_, rfl⟩
  have hb2 := bit_u8 hj8
  rw [hbt] at S hb2
  obtain ⟨y, hy⟩ : ∃ y, bits .xor .u8 (gt bl k) bt = y := ⟨_, rfl⟩
  obtain ⟨hyb, hyn⟩ := u8_xor YK hb2
  rw [hy] at S hyb hyn
  have YS := YB.set k hyb.1 hyb.2
  have PX := hid (M.out.trn k y hkn hyb hyn)
  clear hyn YK t1 t2 t3 t4 t5 hki lb
  go_wp2_with (first
    | go_skip
    | (((with_reducible show wpList _ _ _ (_ :: _) _ (World.alloc _ _)); refine wpList_world fun w' hw2 => ?_; replace S := hid (S.out.alloc hw2); clear hw2))
    | ((with_reducible show wpList _ _ _ _ _ _); first
        | ((with_reducible show wpList _ _ _ (⟨_, .load 24 _, _, _, _, _⟩ :: _) _ _); first | (refine wpList_getS (by rfl) _ _ rfl S.out _ rfl 0 _ _ rfl _ (by rfl) Try.underlying24 (by rw [addr_info]; exact congrArg some (addr_cells (by first | rfl | assumption)).symm) ?_) | (refine wpList_getS (by rfl) _ _ rfl S.out _ rfl 1 _ _ rfl _ (by rfl) Try.underlying24 (by rw [addr_info]; exact congrArg some (addr_cells (by first | rfl | assumption)).symm) ?_) | (refine wpList_getS (by rfl) _ _ rfl S.out _ rfl 2 _ _ rfl _ (by rfl) Try.underlying24 (by rw [addr_info]; exact congrArg some (addr_cells (by first | rfl | assumption)).symm) ?_) | (refine wpList_getS (by rfl) _ _ rfl S.out _ rfl 3 _ _ rfl _ (by rfl) Try.underlying24 (by rw [addr_info]; exact congrArg some (addr_cells (by first | rfl | assumption)).symm) ?_) | (refine wpList_getS (by rfl) _ _ rfl S.out _ rfl 4 _ _ rfl _ (by rfl) Try.underlying24 (by rw [addr_info]; exact congrArg some (addr_cells (by first | rfl | assumption)).symm) ?_) | (refine wpList_getS (by rfl) _ _ rfl S.out _ rfl 5 _ _ rfl _ (by rfl) Try.underlying24 (by rw [addr_info]; exact congrArg some (addr_cells (by first | rfl | assumption)).symm) ?_))
        | ((with_reducible show wpList _ _ _ (⟨_, .load 28 _, _, _, _, _⟩ :: _) _ _); first | (refine wpList_getS (by rfl) _ _ rfl S.out _ rfl 0 _ _ rfl _ (by rfl) Try.underlying28 msg_info ?_) | (refine wpList_getS (by rfl) _ _ rfl S.out _ rfl 1 _ _ rfl _ (by rfl) Try.underlying28 msg_info ?_) | (refine wpList_getS (by rfl) _ _ rfl S.out _ rfl 2 _ _ rfl _ (by rfl) Try.underlying28 msg_info ?_) | (refine wpList_getS (by rfl) _ _ rfl S.out _ rfl 3 _ _ rfl _ (by rfl) Try.underlying28 msg_info ?_) | (refine wpList_getS (by rfl) _ _ rfl S.out _ rfl 4 _ _ rfl _ (by rfl) Try.underlying28 msg_info ?_) | (refine wpList_getS (by rfl) _ _ rfl S.out _ rfl 5 _ _ rfl _ (by rfl) Try.underlying28 msg_info ?_))
        | ((with_reducible show wpList _ _ _ (⟨_, .store _ _ _, _, _, _, _⟩ :: _) _ _); refine wpList_putS (by rfl) _ _ _ rfl rfl S.out _ msg0 rfl rfl 0 28 _ rfl msg_info (by rfl) msg0_one ?_; intro w' hS; simp only [List.set] at hS; replace S := hid hS; clear hS))
    | (go_at_call 14; refine (PX.out _ _ (S.out.rb 0 rfl YS)).mono ?_; rintro en w' ⟨rfl, hb⟩; replace S := hid (S.out.keep hb); clear hb)
    | (go_at_call 16; refine (SZ.out _).mono ?_; rintro en w' ⟨rfl, hb⟩; replace S := hid (S.out.keep hb); clear hb))
  go_ret
  exact P.out _ _ rfl S.out.nil
end Go.Proofs.Ytpggbbjhbklamaa
