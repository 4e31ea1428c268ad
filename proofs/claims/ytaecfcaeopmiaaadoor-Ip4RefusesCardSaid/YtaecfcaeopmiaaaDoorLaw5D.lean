/-
  The statement Ip4Refuses, walked.
-/
import Derived.Test.YtaecfcaeopmiaaaDoorMnd
namespace Go.Proofs.YtaecfcaeopmiaaaDoor
open Go.RowKit

/-- a packet that may not be laid -/
def Spoilt4 (w : World) (b : Nat) (w' : World) : Prop :=
  ∃ (q : Pk) (lo ld : List Int) (L : List Res), Pin w' q lo ld ∧ lo.length ≤ 1000 ∧ ld.length ≤ 70000 ∧ right4 q lo ld.length = false ∧ Sp w w' (.blk b (pkC q) 30 :: L)
theorem zerosB_set {l : List Int} {k : Nat} (h4 : 4 ≤ k) (hk : k < l.length) : zerosB ((l.set k 1).drop 4) = false := by
  refine Bool.eq_false_iff.2 fun hc => ?_
  unfold zerosB at hc
  rw [List.all_eq_true] at hc
  have h := hc 1 (by
    rw [List.mem_iff_getElem?]
    refine ⟨k - 4, ?_⟩
    rw [List.getElem?_drop, show 4 + (k - 4) = k by omega, List.getElem?_set_self hk])
  simp at h
theorem i64_or1 {n : Int} (h0 : 0 ≤ n) (h1 : n < 9223372036854775807) (h2 : n % 2 = 0) : bits .or .i64 n 1 = n + 1 := by
  show IntKind.i64.wrap ((BitVec.ofInt 64 n ||| BitVec.ofInt 64 1).toNat : Nat) = _
  rw [BitVec.toNat_or, i64_nat, i64_nat, show ((1 : Int) % 18446744073709551616).toNat = 1 by decide]
  obtain ⟨m, rfl⟩ : ∃ m : Nat, n = (m : Int) := ⟨n.toNat, by omega⟩
  rw [show ((m : Int) % 18446744073709551616).toNat = 2 ^ 1 * (m / 2) by omega, ← Nat.two_pow_add_eq_or_of_lt (by decide : 1 < 2 ^ 1)]
  rw [IntWalk.i64_in _ (by omega)]
  omega
theorem i64_and6' (n : Int) : ∃ e : Int, bits .and .i64 n 6 = e ∧ 0 ≤ e ∧ e ≤ 6 ∧ e % 2 = 0 := by
  refine ⟨_, rfl, ?_⟩
  show 0 ≤ IntKind.i64.wrap ((BitVec.ofInt 64 n &&& BitVec.ofInt 64 6).toNat : Nat) ∧ IntKind.i64.wrap ((BitVec.ofInt 64 n &&& BitVec.ofInt 64 6).toNat : Nat) ≤ 6 ∧ IntKind.i64.wrap ((BitVec.ofInt 64 n &&& BitVec.ofInt 64 6).toNat : Nat) % 2 = 0
  rw [BitVec.toNat_and, show (BitVec.ofInt 64 6).toNat = 6 by decide]
  generalize (BitVec.ofInt 64 n).toNat = x
  have h1 : x &&& 6 ≤ 6 := Nat.and_le_right
  have h2 : (x &&& 6) % 2 = 0 := by
    rw [show (2 : Nat) = 2 ^ 1 by rfl, Nat.and_mod_two_pow]
    simp
  rw [IntWalk.i64_in _ (by omega)]
  omega
set_option maxHeartbeats 1000000 in
set_option maxRecDepth 20000 in
theorem ip4Refuses_any (p : Pk) (lo ld : List Int) (hw od : Int) (w : World) (hT : Tab w) (h : Pin w p lo ld) (hll : lo.length ≤ 140737488355328 ∧ ld.length ≤ 140737488355328) (_ : -9223372036854775808 ≤ hw ∧ hw ≤ 9223372036854775807) (_ : -9223372036854775808 ≤ od ∧ od ≤ 9223372036854775807) :
    Calls Tryd.prog 9 #[.agg (pkC p), .int .i64 hw, .int .i64 od] w (APost w (.bool true)) := by
  have L1 := h.pk.src.len
  have L2 := h.pk.dst.len
  have PI := hid h
  have TB := hid hT
  have MD := hid (fun W (hP : Pin W p lo ld) => mend_any p lo ld W hP hll)
  unfold MendPost at MD
  have AL := hid (fun W (hW : Tab W) => alive5_any W hW)
  obtain ⟨z, e1, hz⟩ : ∃ z : Int, bits .and .i64 od 65535 = z ∧ 0 ≤ z ∧ z ≤ 65535 := ⟨_, i64_andlow od 16 65535 (by decide) (by decide), by omega⟩
  obtain ⟨f, e2, hf⟩ : ∃ f : Int, IntKind.i64.wrap (256 + z) = f ∧ 256 ≤ f ∧ f ≤ 65791 := ⟨256 + z, IntWalk.i64_in _ (by omega), by omega⟩
  obtain ⟨d, e15, hd⟩ : ∃ d : Int, bits .and .i64 hw 15 = d ∧ 0 ≤ d ∧ d ≤ 15 := ⟨_, i64_andlow hw 4 15 (by decide) (by decide), by omega⟩
  have HZ := hid hz
  have HF := hid hf
  have D := hid hd
  have P := hid (fun en w' (h1 : en = .returned (.bool true)) (h2 : Sp w w' []) => show APost w (.bool true) en w' from ⟨h1, h2.bel⟩)
  have S : Hid (Sp w (w.alloc (.cells (pkC p) 30)) [.blk w.heap.size (pkC p) 30]) := hid (Sp.in1 ..)
  clear h hT hll hz hf hd
  go_enter Tryd.func9, Tryd.ntmps9
  go_upto_region 1 with fail
  generalize w.alloc (.cells (pkC p) 30) = w' at *
  generalize w.heap.size = b at *
  go_upto_region 4 with (first
    | go_skip
    | (((with_reducible show wpList _ _ _ (_ :: _) _ (World.alloc _ (.cells _ 30))); refine wpList_world fun w' hw2 => ?_; replace S := hid (show Sp _ _ (.blk _ (pkC pk0) 30 :: _) from S.out.alloc hw2); clear hw2))
    | ((with_reducible show wpList _ _ _ _ _ _)
       first
       | ((with_reducible show wpList _ _ _ (⟨_, .load 30 _, _, _, _, _⟩ :: _) _ _); first | (refine wpList_getW (by rfl) _ rfl S.out _ rfl 0 _ rfl (by first | rfl | assumption) (by first | rfl | assumption) ?_) | (refine wpList_getW (by rfl) _ rfl S.out _ rfl 1 _ rfl (by first | rfl | assumption) (by first | rfl | assumption) ?_) | (refine wpList_getW (by rfl) _ rfl S.out _ rfl 2 _ rfl (by first | rfl | assumption) (by first | rfl | assumption) ?_) | (refine wpList_getW (by rfl) _ rfl S.out _ rfl 3 _ rfl (by first | rfl | assumption) (by first | rfl | assumption) ?_) | (refine wpList_getW (by rfl) _ rfl S.out _ rfl 4 _ rfl (by first | rfl | assumption) (by first | rfl | assumption) ?_) | (refine wpList_getW (by rfl) _ rfl S.out _ rfl 5 _ rfl (by first | rfl | assumption) (by first | rfl | assumption) ?_))
       | ((with_reducible show wpList _ _ _ (⟨_, .store _ _ _, _, _, _, _⟩ :: _) _ _); first | (refine wpList_putW (by rfl) _ _ rfl rfl S.out _ rfl 0 _ rfl _ rfl (by first | rfl | assumption) (by first | rfl | assumption) (by first | rfl | assumption) (by first | rfl | assumption) (by first | rfl | assumption) (by first | rfl | assumption) ?_; intro w' hS; simp only [List.set] at hS; replace S := hid hS; clear hS) | (refine wpList_putW (by rfl) _ _ rfl rfl S.out _ rfl 1 _ rfl _ rfl (by first | rfl | assumption) (by first | rfl | assumption) (by first | rfl | assumption) (by first | rfl | assumption) (by first | rfl | assumption) (by first | rfl | assumption) ?_; intro w' hS; simp only [List.set] at hS; replace S := hid hS; clear hS) | (refine wpList_putW (by rfl) _ _ rfl rfl S.out _ rfl 2 _ rfl _ rfl (by first | rfl | assumption) (by first | rfl | assumption) (by first | rfl | assumption) (by first | rfl | assumption) (by first | rfl | assumption) (by first | rfl | assumption) ?_; intro w' hS; simp only [List.set] at hS; replace S := hid hS; clear hS) | (refine wpList_putW (by rfl) _ _ rfl rfl S.out _ rfl 3 _ rfl _ rfl (by first | rfl | assumption) (by first | rfl | assumption) (by first | rfl | assumption) (by first | rfl | assumption) (by first | rfl | assumption) (by first | rfl | assumption) ?_; intro w' hS; simp only [List.set] at hS; replace S := hid hS; clear hS) | (refine wpList_putW (by rfl) _ _ rfl rfl S.out _ rfl 4 _ rfl _ rfl (by first | rfl | assumption) (by first | rfl | assumption) (by first | rfl | assumption) (by first | rfl | assumption) (by first | rfl | assumption) (by first | rfl | assumption) ?_; intro w' hS; simp only [List.set] at hS; replace S := hid hS; clear hS)))
    | (go_at_call 11; refine (AL.out _ (TB.out.below S.out.bel)).mono ?_; rintro en w' ⟨rfl, hb⟩; replace S := hid (S.out.keep hb); clear hb)
    | (go_at_call 25; refine (MD.out _ (PI.out.below S.out.bel)).mono ?_; rintro en w' ⟨q, no, xs, nx, so, co, sx, cx, rfl, hS, hq, yx, hx, hr⟩; have HQ := hid hq; have L3 := hq.src.len; have L4 := hq.dst.len; have YX := yx; have RP := hid (right4_parts hr); have HX := hid hx; clear hq hr hx; replace hS := S.out.call hS; simp only [List.cons_append, List.nil_append] at hS; replace S := hid hS; clear hS))
  (try simp only [Act.put, List.setIfInBounds_toArray, List.set_cons_zero, List.set_cons_succ])
  generalize hb7 : (World.heap _).size = b7 at S ⊢
  (try simp only [Act.put, List.setIfInBounds_toArray, List.set_cons_zero, List.set_cons_succ])
  replace S := hid (S.out.sub (show [Res.blk b7 _ _, Res.row _ _ _ _ _, Res.row _ _ _ _ _].Sublist _ from (by repeat (first | exact List.Sublist.refl _ | exact List.nil_sublist _ | apply List.Sublist.cons_cons | apply List.Sublist.cons))))
  simp only [pkO] at S
  obtain ⟨os, hos⟩ : ∃ os, os = List.replicate no (1 : Int) := ⟨_, rfl⟩
  have yo : Byt os := by rw [hos]; exact ones_byt no
  have hol : os.length = no := by rw [hos, List.length_replicate]
  rw [← hos] at S RP
  clear hos
  have HO := hid hol
  have r0 := RP.out
  obtain ⟨-, -, -, -, ⟨r1, -, -⟩, r2, r3⟩ := r0
  have r4 := validB_len r2
  have hX := HX.out
  obtain ⟨j7, e7, hj7⟩ : ∃ j : Nat, bits .and .i64 od 7 = (j : Int) ∧ j ≤ 7 := ⟨(od % 8).toNat, by rw [i64_andlow od 3 7 (by decide) (by decide)]; omega, by omega⟩
  obtain ⟨k, e8, hk⟩ : ∃ k : Nat, IntKind.i64.wrap (4 + (j7 : Int)) = (k : Int) ∧ 4 ≤ k ∧ k < 16 := ⟨4 + j7, by rw [IntWalk.i64_in _ (by omega)]; omega, by omega⟩
  have hk16 : (k : Int) < 16 := by omega
  obtain ⟨e, e6, he6⟩ := i64_and6' od
  have n5 : bits .or .i64 q.Off 1 = q.Off + 1 := i64_or1 (by omega) (by omega) (by omega)
  obtain ⟨g, n6, hg⟩ : ∃ g : Int, IntKind.i64.wrap (q.Off + 1 + e) = g ∧ g % 8 ≠ 0 := ⟨q.Off + 1 + e, IntWalk.i64_in _ (by omega), by omega⟩
  have hz := HZ.out
  have hf := HF.out
  obtain ⟨y, n7, hy⟩ : ∃ y : Int, IntKind.i64.wrap (8 * z) = y ∧ 0 ≤ y ∧ y ≤ 524280 := ⟨8 * z, IntWalk.i64_in _ (by omega), by omega⟩
  obtain ⟨y2, n8, hy2⟩ : ∃ y2 : Int, IntKind.i64.wrap (65536 + y) = y2 ∧ 65536 ≤ y2 := ⟨65536 + y, IntWalk.i64_in _ (by omega), by omega⟩
  obtain ⟨f2, n1, hf2⟩ : ∃ x : Int, IntKind.i64.wrap (-f) = x ∧ x < 0 := ⟨-f, IntWalk.i64_in _ (by omega), by omega⟩
  have n2 : IntKind.u32.wrap f = f := IntWalk.u32_in _ (by omega)
  obtain ⟨f3, n3, hf3⟩ : ∃ x : Int, IntKind.u32.wrap (65536 + f) = x ∧ 65535 < x ∧ x ≤ 4294967295 := ⟨65536 + f, IntWalk.u32_in _ (by omega), by omega⟩
  obtain ⟨m8, n9, hm8⟩ : ∃ m : Nat, IntKind.i64.wrap ((nx : Int) / 8 * 8) = (m : Int) ∧ m % 8 = 0 ∧ m ≤ nx := ⟨nx / 8 * 8, by rw [IntWalk.i64_in _ (by omega)]; omega, by omega⟩
  have hnx : nx ≤ 65535 := by omega
  go_upto_region 5 with (first | go_skip)
  go_upto_block 0 with fail
  clear r1 r2 r3 hz hf
  go_cut [] from 8 (fun wc => Spoilt4 w b7 wc)
  case first =>
    have hd := D.out
    have hd2 : d = 0 ∨ d = 1 ∨ d = 2 ∨ d = 3 ∨ d = 4 ∨ d = 5 ∨ d = 6 ∨ d = 7 ∨ d = 8 ∨ d = 9 ∨ d = 10 ∨ d = 11 ∨ d = 12 ∨ d = 13 ∨ d = 14 ∨ d = 15 := by omega
    clear hd
    rcases hd2 with rfl | rfl | rfl | rfl | rfl | rfl | rfl | rfl | rfl | rfl | rfl | rfl | rfl | rfl | rfl | rfl
    all_goals (
    go_wp2_with (first
      | go_skip
      | (((with_reducible show wpList _ _ _ (_ :: _) _ (World.alloc _ (.cells _ 5))); refine wpList_world fun w' hw2 => ?_; (first | (replace S := hid (S.out.lit (l := []) (n := 0) hw2 rfl rfl (by decide))) | (replace S := hid (S.out.lit (l := [_]) (n := 1) hw2 rfl rfl (by decide))) | (replace S := hid (S.out.lit (l := [_, _]) (n := 2) hw2 rfl rfl (by decide))) | (replace S := hid (S.out.lit (l := [_, _, _]) (n := 3) hw2 rfl rfl (by decide))) | (replace S := hid (S.out.lit (l := [_, _, _, _]) (n := 4) hw2 rfl rfl (by decide)))); clear hw2))
      | ((with_reducible show wpList _ _ _ _ _ _)
         first
         | ((with_reducible show wpList _ _ _ (⟨_, .load _ _, _, _, _, _⟩ :: _) _ _); first | (refine wpList_get_pk (by rfl) _ _ rfl S.out _ _ rfl 0 _ rfl _ rfl (by rfl) (by first | rfl | assumption) (by first | rfl | assumption) ?_) | (refine wpList_get_pk (by rfl) _ _ rfl S.out _ _ rfl 1 _ rfl _ rfl (by rfl) (by first | rfl | assumption) (by first | rfl | assumption) ?_) | (refine wpList_get_pk (by rfl) _ _ rfl S.out _ _ rfl 2 _ rfl _ rfl (by rfl) (by first | rfl | assumption) (by first | rfl | assumption) ?_) | (refine wpList_get_pk (by rfl) _ _ rfl S.out _ _ rfl 3 _ rfl _ rfl (by rfl) (by first | rfl | assumption) (by first | rfl | assumption) ?_) | (refine wpList_get_pk (by rfl) _ _ rfl S.out _ _ rfl 4 _ rfl _ rfl (by rfl) (by first | rfl | assumption) (by first | rfl | assumption) ?_) | (refine wpList_get_pk (by rfl) _ _ rfl S.out _ _ rfl 5 _ rfl _ rfl (by rfl) (by first | rfl | assumption) (by first | rfl | assumption) ?_))
         | ((with_reducible show wpList _ _ _ (⟨_, .store _ _ _, _, _, _, _⟩ :: _) _ _); refine wpList_put_sb (by rfl) _ _ rfl rfl S.out _ _ rfl _ rfl 0 _ rfl k rfl (by omega) (by first | rfl | assumption) (by first | rfl | assumption) ?_; intro w' hS; simp only [List.set] at hS; replace S := hid hS; clear hS)
         | ((with_reducible show wpList _ _ _ (⟨_, .store _ _ _, _, _, _, _⟩ :: _) _ _); first | (refine wpList_put_pk (by rfl) _ _ _ rfl rfl S.out _ _ rfl 0 _ rfl _ rfl _ rfl (by rfl) (by first | rfl | assumption) (by first | rfl | assumption) ?_; intro w' hS; simp only [List.set] at hS; replace S := hid hS; clear hS) | (refine wpList_put_pk (by rfl) _ _ _ rfl rfl S.out _ _ rfl 1 _ rfl _ rfl _ rfl (by rfl) (by first | rfl | assumption) (by first | rfl | assumption) ?_; intro w' hS; simp only [List.set] at hS; replace S := hid hS; clear hS) | (refine wpList_put_pk (by rfl) _ _ _ rfl rfl S.out _ _ rfl 2 _ rfl _ rfl _ rfl (by rfl) (by first | rfl | assumption) (by first | rfl | assumption) ?_; intro w' hS; simp only [List.set] at hS; replace S := hid hS; clear hS) | (refine wpList_put_pk (by rfl) _ _ _ rfl rfl S.out _ _ rfl 3 _ rfl _ rfl _ rfl (by rfl) (by first | rfl | assumption) (by first | rfl | assumption) ?_; intro w' hS; simp only [List.set] at hS; replace S := hid hS; clear hS) | (refine wpList_put_pk (by rfl) _ _ _ rfl rfl S.out _ _ rfl 4 _ rfl _ rfl _ rfl (by rfl) (by first | rfl | assumption) (by first | rfl | assumption) ?_; intro w' hS; simp only [List.set] at hS; replace S := hid hS; clear hS) | (refine wpList_put_pk (by rfl) _ _ _ rfl rfl S.out _ _ rfl 5 _ rfl _ rfl _ rfl (by rfl) (by first | rfl | assumption) (by first | rfl | assumption) ?_; intro w' hS; simp only [List.set] at hS; replace S := hid hS; clear hS))
         | ((with_reducible show wpList _ _ _ (⟨_, .slice _ _ _ _ _, _, _, _, _⟩ :: _) _ _); refine wpList_front (by rfl) _ _ rfl _ _ _ rfl _ _ rfl m8 rfl (by have := (S.out.cap 1 rfl).1; omega) ?_; replace S := hid (S.out.front 1 rfl m8 (by omega)); simp only [List.set] at S)
         | (at_builtin; first
            | (refine wpList_grow (by rfl) _ _ rfl S.out 2 rfl rfl _ [1, 2, 3] rfl (S.out.rb 0 rfl (lit_bytes (by decide))) (m8 + 3) (by rfl) (by omega) ?_; rintro a2 c2 w' hS; simp only [List.set] at hS; replace S := hid (hS.sub (List.sublist_cons_self _ _)); clear hS)
            | (refine wpList_grow (by rfl) _ _ rfl S.out 3 rfl rfl _ [1] rfl (S.out.rb 0 rfl (lit_bytes (by decide))) (no + 1) (by rfl) (by omega) ?_; rintro a2 c2 w' hS; simp only [List.set] at hS; replace S := hid (hS.sub (List.sublist_cons_self _ _)); clear hS)))))
    all_goals go_meet
    all_goals
      have q1 := HQ.out.src
      have q2 := HQ.out.dst
      have i0 := HQ.out.id0
      have i1 := HQ.out.id1
      have hz := HZ.out
      have hf := HF.out
    all_goals first
      | (refine ⟨_, os, xs, _, ⟨?_, S.out.rb 2 rfl yo, S.out.rb 1 rfl YX⟩, by omega, by omega, ?_, S.out⟩)
      | (refine ⟨_, [7, 1, 1, 1], xs, _, ⟨?_, S.out.rb 0 rfl (lit_bytes (by decide)), S.out.rb 2 rfl YX⟩, by decide, by omega, ?_, S.out.sub (List.sublist_cons_self _ _)⟩)
      | (refine ⟨_, os, [], _, ⟨?_, S.out.rb 2 rfl yo, Rb.nil _⟩, by omega, by decide, ?_, S.out⟩)
      | (refine ⟨_, os ++ [1], xs, _, ⟨?_, S.out.rb 2 rfl (yo.append (lit_bytes (by decide))), S.out.rb 1 rfl YX⟩, by simp; omega, by omega, ?_, S.out⟩)
      | (refine ⟨_, os, xs.take m8 ++ [1, 2, 3], _, ⟨?_, S.out.rb 2 rfl yo, S.out.rb 1 rfl ((YX.take _).append (lit_bytes (by decide)))⟩, by omega, by simp; omega, ?_, S.out⟩)

    all_goals first
      | (refine ⟨by first | exact q1 | exact ⟨(List.length_set ..).trans q1.len, q1.byt.set _ (by decide) (by decide), q1.lo, q1.hi⟩, by first | exact q2 | exact (⟨q2.len, q2.byt, (show (-9223372036854775808 : Int) ≤ 6 by decide), (show (6 : Int) ≤ 9223372036854775807 by decide)⟩ : IsA 6 q.dB), by first | exact i0 | (dsimp only [pkO]; omega), by first | exact i1 | (dsimp only [pkO]; omega), rfl, rfl⟩)
      | skip
    all_goals (
    have r0 := RP.out
    clear S q1 q2 i0 i1
    refine Bool.eq_false_iff.2 fun hc => ?_
    obtain ⟨⟨s1, s2, s3, s4⟩, ⟨s5, s6⟩, ⟨s7, s8⟩, s9, ⟨s10, s11, s12⟩, s13, s14⟩ := right4_parts hc
    clear hc
    (try dsimp only at s1 s2 s3 s4 s5 s6 s7 s8 s9 s10 s11 s12 s13 s14)
    first
    | (cases s3; done)
    | omega
    | (rw [show zerosB _ = false from zerosB_set hk.1 (by rw [L3]; exact hk.2)] at s6; cases s6)
    | (have := validB_len s13; simp at this; omega)
    | (unfold validB at s13; rw [parse_cons] at s13; simp at s13; done)
    | (have := s11 rfl; simp at this; omega)
    | (simp at s12; done)
    | skip)
  case rest =>
  obtain ⟨q', lo', ld', L', hP, hl1, hl2, hr', hS⟩ := hcut
  have S := hid hS
  have L5 := hP.pk.src.len
  have L6 := hP.pk.dst.len
  have HQ2 := hid hP.pk
  have PQ := hid hP
  have OW := hid (fun W (hP : Pin W q' lo' ld') => ownP_any q' lo' ld' W hP ⟨by omega, by omega⟩)
  have BD := hid (fun W o x (hP : Pin W (pkO q' o x) lo' ld') (hT : Tab W) => (show Calls Tryd.prog 18 #[.agg (pkC (pkO q' o x))] W (BB 1 0 [] W) from (build4_no (pkO q' o x) lo' ld' W hP hT ⟨by omega, by omega⟩ hr').mono fun _ _ h => h.bb rfl))
  have RT := hid (fun W (hP : Pin W q' lo' ld') (hT : Tab W) => (show Calls Tryd.prog 20 #[.agg (pkC q')] W (APost W (.bool false)) from by
    have := right4_any q' lo' ld' W hP hT (by omega)
    rwa [hr'] at this))
  have HD := hid (fun W (hP : Pin W q' lo' ld') (hT : Tab W) => (show Calls Tryd.prog 22 #[.agg (pkC q')] W (APost W (.int .i64 0)) from by
    have := Head4_any q' lo' ld' W hP hT (by omega)
    rwa [hr', if_neg (by decide)] at this))
  have YL := hid hP.oR.byt
  have YD := hid hP.xR.byt
  have B0 := hid (Below.refl wc.heap.size wc)
  clear hS hl1 hl2 hr' hP e7 hj7 e8 hk hk16 e6 he6 n5 n6 hg n7 hy n8 hy2 n1 hf2 n2 n3 hf3 n9 hm8 e1 e2 e15 RP HQ HX HO HZ HF D hX hol r4
  go_wp2_with (first
    | go_skip
    | ((with_reducible show wpList _ _ _ _ _ _); ((with_reducible show wpList _ _ _ (⟨_, .load _ _, _, _, _, _⟩ :: _) _ _); refine wpList_getW (by rfl) _ rfl S.out _ rfl 0 q' rfl L5 L6 ?_))
    | (go_at_call 26; refine (OW.out _ (PQ.out.below B0.out)).mono ?_; rintro en w' ⟨s1, c1, s2, c2, rfl, hS2⟩; have P2 := hid (show Pin _ (pkO q' _ _) lo' ld' from ⟨pkO_is HQ2.out rfl rfl, hS2.rb 1 rfl YL.out, hS2.rb 0 rfl YD.out⟩); replace S := hid (S.out.keep hS2.bel); replace B0 := hid (B0.out.trans (hS2.bel.mono B0.out.size)); clear hS2)
    | (go_at_call 18; refine (BD.out _ _ _ P2.out (TB.out.below S.out.bel)).mono ?_; clear P2; rintro en w' ⟨s1, c1, rfl, hS2⟩; replace S := hid (S.out.keep hS2.bel); replace B0 := hid (B0.out.trans (hS2.bel.mono B0.out.size)); clear hS2)
    | (go_at_call 20; refine (RT.out _ (PQ.out.below B0.out) (TB.out.below S.out.bel)).mono ?_; rintro en w' ⟨rfl, hb⟩; replace S := hid (S.out.keep hb); replace B0 := hid (B0.out.trans (hb.mono B0.out.size)); clear hb)
    | (go_at_call 22; refine (HD.out _ (PQ.out.below B0.out) (TB.out.below S.out.bel)).mono ?_; rintro en w' ⟨rfl, hb⟩; replace S := hid (S.out.keep hb); replace B0 := hid (B0.out.trans (hb.mono B0.out.size)); clear hb))
  go_ret
  exact P.out _ _ rfl S.out.nil
end Go.Proofs.YtaecfcaeopmiaaaDoor
