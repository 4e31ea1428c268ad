/-
  The statement Ip4Fields, walked.
-/
import Derived.Test.YtaecfcaeopmiaaaDoorMnd
namespace Go.Proofs.YtaecfcaeopmiaaaDoor
open Go.RowKit

theorem i64_or_nat (a b : Nat) (ha : a < 9223372036854775808) (hb : b < 9223372036854775808) (h : a ||| b < 9223372036854775808) : bits .or .i64 (a : Int) (b : Int) = ((a ||| b : Nat) : Int) := by
  show IntKind.i64.wrap ((BitVec.ofInt 64 a ||| BitVec.ofInt 64 b).toNat : Nat) = _
  rw [BitVec.toNat_or, i64_nat, i64_nat, show ((a : Int) % 18446744073709551616).toNat = a by omega, show ((b : Int) % 18446744073709551616).toNat = b by omega]
  exact IntWalk.i64_in _ (by omega)
theorem nat_or_hi {k n : Nat} (h : n < 2 ^ k) : n ||| 2 ^ k = n + 2 ^ k := by
  have := Nat.two_pow_add_eq_or_of_lt h 1
  rw [Nat.mul_one] at this
  rw [Nat.or_comm, ← this, Nat.add_comm]
theorem flag_df {n : Int} (h0 : 0 ≤ n) (h1 : n < 8192) : bits .or .i64 n 16384 = n + 16384 := by
  obtain ⟨m, rfl⟩ : ∃ m : Nat, n = (m : Int) := ⟨n.toNat, by omega⟩
  have e := nat_or_hi (k := 14) (n := m) (by omega)
  have := i64_or_nat m 16384 (by omega) (by decide) (by rw [show (16384 : Nat) = 2 ^ 14 by decide, e]; omega)
  rw [show ((16384 : Int)) = ((16384 : Nat) : Int) by rfl, this, show (16384 : Nat) = 2 ^ 14 by decide, e]
  omega
theorem flag_mf {n : Int} (h0 : 0 ≤ n) (h1 : n < 8192) : bits .or .i64 n 8192 = n + 8192 := by
  obtain ⟨m, rfl⟩ : ∃ m : Nat, n = (m : Int) := ⟨n.toNat, by omega⟩
  have e := nat_or_hi (k := 13) (n := m) (by omega)
  have := i64_or_nat m 8192 (by omega) (by decide) (by rw [show (8192 : Nat) = 2 ^ 13 by decide, e]; omega)
  rw [show ((8192 : Int)) = ((8192 : Nat) : Int) by rfl, this, show (8192 : Nat) = 2 ^ 13 by decide, e]
  omega
theorem flag_both {n : Int} (h0 : 0 ≤ n) (h1 : n < 8192) : bits .or .i64 (n + 16384) 8192 = n + 24576 := by
  obtain ⟨m, rfl⟩ : ∃ m : Nat, n = (m : Int) := ⟨n.toNat, by omega⟩
  have e := nat_or_hi (k := 13) (n := m) (by omega)
  have e2 := nat_or_hi (k := 14) (n := m) (by omega)
  have e3 := nat_or_hi (k := 14) (n := m + 2 ^ 13) (by omega)
  have e4 : (m + 16384) ||| 8192 = m + 24576 := by
    have h5 : (m ||| 2 ^ 14) ||| 2 ^ 13 = (m ||| 2 ^ 13) ||| 2 ^ 14 := by rw [Nat.or_assoc, Nat.or_comm (2 ^ 14), ← Nat.or_assoc]
    rw [e2, e] at h5
    exact h5.trans (e3.trans (by omega))
  have := i64_or_nat (m + 16384) 8192 (by omega) (by decide) (by rw [e4]; omega)
  rw [show ((m : Int) + 16384) = ((m + 16384 : Nat) : Int) by omega, show ((8192 : Int)) = ((8192 : Nat) : Int) by rfl, this, e4]
  omega
theorem or_word {x : Int} (h0 : 0 ≤ x) (h1 : x ≤ 65535) : bits .or .i64 (x / 256 * 256) (x % 256) = x := by
  obtain ⟨m, rfl⟩ : ∃ m : Nat, x = (m : Int) := ⟨x.toNat, by omega⟩
  have e := Nat.two_pow_add_eq_or_of_lt (show m % 256 < 2 ^ 8 by omega) (m / 256)
  have e2 : (m / 256 * 256) ||| (m % 256) = m := by
    rw [show m / 256 * 256 = 2 ^ 8 * (m / 256) by omega, ← e]
    omega
  have := i64_or_nat (m / 256 * 256) (m % 256) (by omega) (by omega) (by rw [e2]; omega)
  rw [show (m : Int) / 256 * 256 = ((m / 256 * 256 : Nat) : Int) by omega, show (m : Int) % 256 = ((m % 256 : Nat) : Int) by omega, this, e2]
theorem or_word32 {x : Int} (h0 : 0 ≤ x) (h1 : x ≤ 65535) : (bits .or .u32 (x / 256 % 4294967296 * 256 % 4294967296) (x % 256) != x) = false := by
  obtain ⟨m, rfl⟩ : ∃ m : Nat, x = (m : Int) := ⟨x.toNat, by omega⟩
  have e := Nat.two_pow_add_eq_or_of_lt (show m % 256 < 2 ^ 8 by omega) (m / 256)
  have e2 : (m / 256 * 256) ||| (m % 256) = m := by
    rw [show m / 256 * 256 = 2 ^ 8 * (m / 256) by omega, ← e]
    omega
  have e3 : bits .or .u32 ((m : Int) / 256 % 4294967296 * 256 % 4294967296) ((m : Int) % 256) = (m : Int) := by
    rw [show (m : Int) / 256 % 4294967296 * 256 % 4294967296 = ((m / 256 * 256 : Nat) : Int) by omega, show (m : Int) % 256 = ((m % 256 : Nat) : Int) by omega]
    show IntKind.u32.wrap ((BitVec.ofInt 32 ((m / 256 * 256 : Nat) : Int) ||| BitVec.ofInt 32 ((m % 256 : Nat) : Int)).toNat : Nat) = _
    rw [BitVec.toNat_or, BitVec.toNat_ofInt, BitVec.toNat_ofInt, show ((((m / 256 * 256 : Nat) : Int)) % ((2 ^ 32 : Nat) : Int)).toNat = m / 256 * 256 by omega, show ((((m % 256 : Nat) : Int)) % ((2 ^ 32 : Nat) : Int)).toNat = m % 256 by omega, e2]
    exact IntWalk.u32_in _ (by omega)
  rw [e3]
  simp
theorem sum_full {q : Pk} {os : List Int} {n : Nat} (hb : Byt (h4 q os n 0)) : foldL (wsum (h4 q os n (sum4 q os n))) = 65535 := by
  have e : ∀ s : Int, wsum (h4 q os n s) = wsum (h4 q os n 0) + (256 * (s / 256) + s % 256) := by
    intro s
    simp only [h4, List.cons_append, List.nil_append, wsum]
    omega
  have h0 := wsum_bd hb
  have h1 : 0 < wsum (h4 q os n 0) := by
    have hr : 0 ≤ wsum ((h4 q os n 0).drop 2) := (wsum_bd (hb.drop 2)).1
    have b1 := hb.bd 1
    have e2 : wsum (h4 q os n 0) = (256 * (64 + ((20 + os.length : Nat) : Int) / 4) + q.TOS) + wsum ((h4 q os n 0).drop 2) := rfl
    have e3 : gt (h4 q os n 0) 1 = q.TOS := rfl
    omega
  rw [e]
  unfold sum4 partL
  generalize wsum (h4 q os n 0) = x at *
  unfold foldL
  rw [if_neg (show ¬ x = 0 by omega)]
  rw [if_neg (by omega)]
  omega
abbrev V64 (a b : Int) : Prop := Value.int .i64 a = Value.int .i64 b
theorem v64 {a b : Int} (h : a = b) : V64 a b := congrArg _ h
theorem fields_num {nb hd : Nat} {fl T L Pr : Int} (h1 : 20 ≤ nb ∧ nb ≤ 65535) (h2 : hd ≤ 60) (h3 : 0 ≤ fl ∧ fl ≤ 32767) (h4 : 0 ≤ T ∧ T ≤ 255) (h5 : 0 ≤ L ∧ L ≤ 255) (h6 : 0 ≤ Pr ∧ Pr ≤ 255) :
    V64 (bits .or .i64 ((nb : Int) / 256 * 256) ((nb : Int) % 256)) (nb : Int) ∧ V64 (bits .or .i64 (fl / 256 * 256) (fl % 256)) fl ∧ V64 (wrap64 ((hd : Int).tdiv 4)) ((hd : Int) / 4) ∧ V64 (wrap64 (64 + (hd : Int) / 4)) (64 + (hd : Int) / 4) ∧ V64 (wrap64 T) T ∧ V64 (wrap64 L) L ∧ V64 (wrap64 Pr) Pr ∧
    V64 (wrap64 ((nb : Int) / 256)) ((nb : Int) / 256) ∧ V64 (wrap64 ((nb : Int) % 256)) ((nb : Int) % 256) ∧ V64 (wrap64 (fl / 256)) (fl / 256) ∧ V64 (wrap64 (fl % 256)) (fl % 256) ∧ V64 (wrap64 ((hd : Int) / 4)) ((hd : Int) / 4) ∧ (bits .or .i64 (wrap64 ((nb : Int) / 256 * 256)) ((nb : Int) % 256) != (nb : Int)) = false ∧ (bits .or .i64 (wrap64 (fl / 256 * 256)) (fl % 256) != fl) = false := by
  refine ⟨v64 (or_word (by omega) (by omega)), v64 (or_word (by omega) (by omega)), v64 ?_, v64 ?_, v64 ?_, v64 ?_, v64 ?_, v64 ?_, v64 ?_, v64 ?_, v64 ?_, v64 ?_, ?_, ?_⟩
  rotate_left 10
  · rw [IntWalk.wrap64_in _ (by omega), or_word (by omega) (by omega)]; simp
  · rw [IntWalk.wrap64_in _ (by omega), or_word (by omega) (by omega)]; simp
  · rw [Int.tdiv_eq_ediv_of_nonneg (by omega)]; exact IntWalk.wrap64_in _ (by omega)
  all_goals exact IntWalk.wrap64_in _ (by omega)
theorem parts4 {q : Pk} {os xs : List Int} (h1 : q.sB.length = 16) (h2 : q.dB.length = 16) : ((b4L q os xs).drop 12).take 4 = q.sB.take 4 ∧ ((b4L q os xs).drop 16).take 4 = q.dB.take 4 ∧ ((b4L q os xs).drop 20).take os.length = os ∧ (b4L q os xs).drop (20 + os.length) = xs := by
  have e : ∀ s, (b4L q os xs).drop (12 + s) = ((q.sB.take 4 ++ (q.dB.take 4 ++ os)) ++ xs).drop s := by
    intro s
    rw [← List.drop_drop]
    rfl
  have l1 : (q.sB.take 4).length = 4 := by simp [h1]
  have l2 : (q.dB.take 4).length = 4 := by simp [h2]
  refine ⟨?_, ?_, ?_, ?_⟩
  · rw [show (12 : Nat) = 12 + 0 from rfl, e, List.drop_zero, List.append_assoc]
    exact List.take_left' l1
  · rw [show (16 : Nat) = 12 + 4 from rfl, e, List.append_assoc, List.drop_left' l1, List.append_assoc]
    exact List.take_left' l2
  · rw [show (20 : Nat) = 12 + (4 + 4) from rfl, e, List.append_assoc, ← List.drop_drop, List.drop_left' l1, List.append_assoc, List.drop_left' l2]
    exact List.take_left' rfl
  · rw [show 20 + os.length = 12 + (4 + (4 + os.length)) by omega, e, List.append_assoc, ← List.drop_drop, List.drop_left' l1, List.append_assoc, ← List.drop_drop, List.drop_left' l2]
    exact List.drop_left' rfl
theorem sum_round {bl : List Int} (hb : Byt bl) {j : Nat} (hj : j % 2 = 0) (hl : j + 1 < bl.length) (hs : j ≤ 60) : ∃ j1 j2 : Nat, ∃ s a c s2 : Int, (j1 = j + 1 ∧ j2 = j + 2) ∧ gt bl j = a ∧ gt bl j1 = c ∧ wsum (bl.take j) = s ∧ wsum (bl.take j2) = s2 ∧
    wrap64 a = a ∧ wrap64 c = c ∧ wrap64 (a * 256) = a * 256 ∧ wrap64 (s + a * 256) = s + a * 256 ∧ wrap64 (s + a * 256 + c) = s2 ∧ wrap64 ((j : Int) + 1) = (j1 : Int) ∧ wrap64 ((j : Int) + 2) = (j2 : Int) ∧
    IntKind.i64.wrap a = a ∧ IntKind.i64.wrap c = c ∧ IntKind.i64.wrap (a * 256) = a * 256 ∧ IntKind.i64.wrap (s + a * 256) = s + a * 256 ∧ IntKind.i64.wrap (s + a * 256 + c) = s2 ∧ IntKind.i64.wrap ((j : Int) + 1) = (j1 : Int) := by
  have y1 := hb.bd j
  have y2 := hb.bd (j + 1)
  have w0 := wsum_bd (hb.take j)
  have hlt : (bl.take j).length = j := by rw [List.length_take]; omega
  rw [hlt] at w0
  have e : wsum (bl.take (j + 2)) = wsum (bl.take j) + (256 * gt bl j + gt bl (j + 1)) := by
    rw [show bl.take (j + 2) = bl.take j ++ [gt bl j, gt bl (j + 1)] from by
      rw [show j + 2 = (j + 1) + 1 from rfl, take_snoc1 hl, take_snoc1 (show j < bl.length by omega), List.append_assoc]; rfl]
    rw [wsum_even _ _ (by rw [hlt]; exact hj)]
    simp only [wsum]
    omega
  refine ⟨j + 1, j + 2, wsum (bl.take j), gt bl j, gt bl (j + 1), wsum (bl.take (j + 2)), ⟨rfl, rfl⟩, rfl, rfl, rfl, rfl, ?_, ?_, ?_, ?_, ?_, ?_, ?_, ?_, ?_, ?_, ?_, ?_, ?_⟩
  · exact IntWalk.wrap64_in _ (by omega)
  · exact IntWalk.wrap64_in _ (by omega)
  · exact IntWalk.wrap64_in _ (by omega)
  · exact IntWalk.wrap64_in _ (by omega)
  · rw [IntWalk.wrap64_in _ (by omega)]; omega
  · rw [IntWalk.wrap64_in _ (by omega)]; omega
  · rw [IntWalk.wrap64_in _ (by omega)]; omega
  · exact IntWalk.i64_in _ (by omega)
  · exact IntWalk.i64_in _ (by omega)
  · exact IntWalk.i64_in _ (by omega)
  · exact IntWalk.i64_in _ (by omega)
  · rw [IntWalk.i64_in _ (by omega)]; omega
  · rw [IntWalk.i64_in _ (by omega)]; omega
theorem fold_round {s : Int} (h0 : 0 ≤ s) (h1 : s ≤ 4000000) (hf : foldL s = 65535) (h : 65535 < s) : ∃ m : Int, s / 65536 + s % 65536 = m ∧ (0 ≤ m ∧ m ≤ 4000000 ∧ foldL m = 65535) ∧ m < s ∧ bits .and .i64 s 65535 = s % 65536 ∧ wrap64 (s / 65536 + s % 65536) = m ∧ wrap64 (s / 65536) = s / 65536 := by
  refine ⟨_, rfl, ⟨by omega, by omega, by rw [foldL_step h]; exact hf⟩, by omega, ?_, IntWalk.wrap64_in _ (by omega), IntWalk.wrap64_in _ (by omega)⟩
  exact i64_andlow s 16 65535 (by decide) (by decide)
/-- what a mended packet is, with the contracts about it -/
def MendR (w : World) (en : Ending) (w' : World) : Prop :=
  ∃ q os xs no nx nb so co sx cx, en = .returned (.agg (pkC (pkO q (.slice so no co) (.slice sx nx cx)))) ∧ Sp w w' [.row (.slice sx nx cx) 5 1 nx (bts xs), .row (.slice so no co) 5 1 no (bts os)] ∧
    IsPk q ∧ right4 q os xs.length = true ∧ RC4 q os xs (b4L q os xs) no nx nb
theorem mend_r (p : Pk) (lo ld : List Int) (w : World) (h : Pin w p lo ld) (hl : lo.length ≤ 140737488355328 ∧ ld.length ≤ 140737488355328) : Calls Tryd.prog 25 #[.agg (pkC p)] w (MendR w) := by
  refine (mend_any p lo ld w h hl).mono fun _ _ hh => ?_
  obtain ⟨q, no, xs, nx, so, co, sx, cx, he, hS, hq, yx, hx, hr⟩ := hh
  have hC := rc4_of hq (ones_byt no) yx hr
  rw [List.length_replicate, hx] at hC
  exact ⟨_, _, _, _, _, _, _, _, _, _, he, hS, hq, hr, hC⟩
set_option maxHeartbeats 1000000 in
set_option maxRecDepth 20000 in
theorem ip4Fields_any (p : Pk) (lo ld : List Int) (w : World) (hT : Tab w) (h : Pin w p lo ld) (hll : lo.length ≤ 140737488355328 ∧ ld.length ≤ 140737488355328) : Calls Tryd.prog 6 #[.agg (pkC p)] w (APost w (.bool true)) := by
  have L1 := h.pk.src.len
  have L2 := h.pk.dst.len
  have PI := hid h
  have TB := hid hT
  have MD := hid (fun W (hP : Pin W p lo ld) => mend_r p lo ld W hP hll)
  unfold MendR at MD
  have AL := hid (fun W (hW : Tab W) => alive5_any W hW)
  have P := hid (fun en w' (h1 : en = .returned (.bool true)) (h2 : Sp w w' []) => show APost w (.bool true) en w' from ⟨h1, h2.bel⟩)
  have S : Hid (Sp w (w.alloc (.cells (pkC p) 30)) [.blk w.heap.size (pkC p) 30]) := hid (Sp.in1 ..)
  clear h hT hll
  go_enter Tryd.func6, Tryd.ntmps6
  go_upto_region 1 with fail
  generalize w.alloc (.cells (pkC p) 30) = w' at *
  generalize w.heap.size = b at *
  go_upto_region 5 with (first
    | go_skip
    | (((with_reducible show wpList _ _ _ (_ :: _) _ (World.alloc _ (.cells _ 30))); refine wpList_world fun w' hw2 => ?_; replace S := hid (show Sp _ _ (.blk _ (pkC pk0) 30 :: _) from S.out.alloc hw2); clear hw2))
    | ((with_reducible show wpList _ _ _ _ _ _)
       first
       | ((with_reducible show wpList _ _ _ (⟨_, .load 30 _, _, _, _, _⟩ :: _) _ _); first | (refine wpList_getW (by rfl) _ rfl S.out _ rfl 0 _ rfl (by first | rfl | assumption) (by first | rfl | assumption) ?_) | (refine wpList_getW (by rfl) _ rfl S.out _ rfl 1 _ rfl (by first | rfl | assumption) (by first | rfl | assumption) ?_) | (refine wpList_getW (by rfl) _ rfl S.out _ rfl 2 _ rfl (by first | rfl | assumption) (by first | rfl | assumption) ?_) | (refine wpList_getW (by rfl) _ rfl S.out _ rfl 3 _ rfl (by first | rfl | assumption) (by first | rfl | assumption) ?_) | (refine wpList_getW (by rfl) _ rfl S.out _ rfl 4 _ rfl (by first | rfl | assumption) (by first | rfl | assumption) ?_) | (refine wpList_getW (by rfl) _ rfl S.out _ rfl 5 _ rfl (by first | rfl | assumption) (by first | rfl | assumption) ?_))
       | ((with_reducible show wpList _ _ _ (⟨_, .store _ _ _, _, _, _, _⟩ :: _) _ _); first | (refine wpList_putW (by rfl) _ _ rfl rfl S.out _ rfl 0 _ rfl _ rfl (by first | rfl | assumption) (by first | rfl | assumption) (by first | rfl | assumption) (by first | rfl | assumption) (by first | rfl | assumption) (by first | rfl | assumption) ?_; intro w' hS; simp only [List.set] at hS; replace S := hid hS; clear hS) | (refine wpList_putW (by rfl) _ _ rfl rfl S.out _ rfl 1 _ rfl _ rfl (by first | rfl | assumption) (by first | rfl | assumption) (by first | rfl | assumption) (by first | rfl | assumption) (by first | rfl | assumption) (by first | rfl | assumption) ?_; intro w' hS; simp only [List.set] at hS; replace S := hid hS; clear hS) | (refine wpList_putW (by rfl) _ _ rfl rfl S.out _ rfl 2 _ rfl _ rfl (by first | rfl | assumption) (by first | rfl | assumption) (by first | rfl | assumption) (by first | rfl | assumption) (by first | rfl | assumption) (by first | rfl | assumption) ?_; intro w' hS; simp only [List.set] at hS; replace S := hid hS; clear hS) | (refine wpList_putW (by rfl) _ _ rfl rfl S.out _ rfl 3 _ rfl _ rfl (by first | rfl | assumption) (by first | rfl | assumption) (by first | rfl | assumption) (by first | rfl | assumption) (by first | rfl | assumption) (by first | rfl | assumption) ?_; intro w' hS; simp only [List.set] at hS; replace S := hid hS; clear hS) | (refine wpList_putW (by rfl) _ _ rfl rfl S.out _ rfl 4 _ rfl _ rfl (by first | rfl | assumption) (by first | rfl | assumption) (by first | rfl | assumption) (by first | rfl | assumption) (by first | rfl | assumption) (by first | rfl | assumption) ?_; intro w' hS; simp only [List.set] at hS; replace S := hid hS; clear hS)))
    | (go_at_call 11; refine (AL.out _ (TB.out.below S.out.bel)).mono ?_; rintro en w' ⟨rfl, hb⟩; replace S := hid (S.out.keep hb); clear hb)
    | (go_at_call 25; refine (MD.out _ (PI.out.below S.out.bel)).mono ?_; rintro en w' ⟨q, os, xs, no, nx, nb, so, co, sx, cx, rfl, hS, hq, hr, hC⟩; have HQ := hid hq; have L3 := hq.src.len; have L4 := hq.dst.len; have RG := hid hr; have C := hid hC; clear hq hr hC; replace hS := S.out.call hS; simp only [List.cons_append, List.nil_append] at hS; replace S := hid hS; clear hS)
    | (go_at_call 26; refine (C.out.own _ _ _ (C.out.pin _ _ _ rfl rfl (S.out.rb 2 rfl C.out.yo) (S.out.rb 1 rfl C.out.yx))).mono ?_; rintro en w' ⟨so4, co4, sx4, cx4, rfl, hS⟩; have P2 := hid (C.out.pin _ _ _ rfl rfl (hS.rb 1 rfl C.out.yo) (hS.rb 0 rfl C.out.yx)); replace S := hid (S.out.keep hS.bel); clear hS)
    | (go_at_call 18; refine (C.out.bld _ _ _ P2.out (TB.out.below S.out.bel)).mono ?_; clear P2; rintro en w' ⟨ca, cc, rfl, hS⟩; replace hS := S.out.call hS; simp only [List.cons_append, List.nil_append] at hS; replace S := hid hS; clear hS))
  (try simp only [Act.put, List.setIfInBounds_toArray, List.set_cons_zero, List.set_cons_succ])
  generalize hb7 : (World.heap _).size = b7 at S ⊢
  clear hb7 MD
  obtain ⟨hd, e5, e6, e7⟩ : ∃ hd : Nat, wrap64 (20 + (no : Int)) = (hd : Int) ∧ wrap64 ((hd : Int) + (nx : Int)) = (nb : Int) ∧ hd = 20 + no := ⟨20 + no, by have := C.out.small; rw [IntWalk.wrap64_in _ (by omega)]; omega, by have := C.out.small; have := C.out.sum; rw [IntWalk.wrap64_in _ (by omega)]; omega, rfl⟩
  have HH := hid e7
  have HDC := hid (fun W o x (h : Pin W (pkO q o x) os xs) (hT : Tab W) => (show Calls Tryd.prog 22 #[.agg (pkC (pkO q o x))] W (APost W (.int .i64 (hd : Int))) from by rw [e7]; exact C.out.hd W o x h hT))
  clear e7
  go_upto_region 8 with (first
    | go_skip
    | ((with_reducible show wpList _ _ _ _ _ _)
       first
       | ((with_reducible show wpList _ _ _ (⟨_, .load 30 _, _, _, _, _⟩ :: _) _ _); first | (refine wpList_getW (by rfl) _ rfl S.out _ rfl 0 _ rfl (by first | rfl | assumption) (by first | rfl | assumption) ?_) | (refine wpList_getW (by rfl) _ rfl S.out _ rfl 1 _ rfl (by first | rfl | assumption) (by first | rfl | assumption) ?_) | (refine wpList_getW (by rfl) _ rfl S.out _ rfl 2 _ rfl (by first | rfl | assumption) (by first | rfl | assumption) ?_) | (refine wpList_getW (by rfl) _ rfl S.out _ rfl 3 _ rfl (by first | rfl | assumption) (by first | rfl | assumption) ?_) | (refine wpList_getW (by rfl) _ rfl S.out _ rfl 4 _ rfl (by first | rfl | assumption) (by first | rfl | assumption) ?_) | (refine wpList_getW (by rfl) _ rfl S.out _ rfl 5 _ rfl (by first | rfl | assumption) (by first | rfl | assumption) ?_))
       | ((with_reducible show wpList _ _ _ (⟨_, .load _ _, _, _, _, _⟩ :: _) _ _); first | (first | (refine wpList_get_pk (by rfl) _ _ rfl S.out _ _ rfl 0 _ rfl (.slice _ no _) (by rfl) (by rfl) L3 L4 ?_) | (refine wpList_get_pk (by rfl) _ _ rfl S.out _ _ rfl 1 _ rfl (.slice _ no _) (by rfl) (by rfl) L3 L4 ?_)) | (first | (refine wpList_get_pk (by rfl) _ _ rfl S.out _ _ rfl 0 _ rfl (.slice _ nx _) (by rfl) (by rfl) L3 L4 ?_) | (refine wpList_get_pk (by rfl) _ _ rfl S.out _ _ rfl 1 _ rfl (.slice _ nx _) (by rfl) (by rfl) L3 L4 ?_))))
    | (go_at_call 22; refine (HDC.out _ _ _ (C.out.pin _ _ _ rfl rfl (S.out.rb 3 rfl C.out.yo) (S.out.rb 2 rfl C.out.yx)) (TB.out.below S.out.bel)).mono ?_; rintro en w' ⟨rfl, hb⟩; replace S := hid (S.out.keep hb); clear hb))
  obtain ⟨ga, gc, hg⟩ := S.out.rowopen 0 rfl (by have := C.out.sum; omega)
  simp only [Value.slice.injEq, true_and] at hg
  obtain ⟨rfl, rfl⟩ := hg
  obtain ⟨⟨t0, t1, t2, t3⟩, ⟨a0, a1⟩, ⟨a2, a3⟩, ⟨b1, b2, b3⟩, ⟨c1, c2, c3⟩, d1, d2⟩ := right4_parts RG.out
  obtain ⟨fl, hfl⟩ : ∃ fl, flags4 q = fl := ⟨_, rfl⟩
  obtain ⟨y1, y2, -⟩ := flags4_bd (p := q) c1.1 c1.2.1 c1.2.2.1
  rw [hfl] at y1 y2
  obtain ⟨f, hf2⟩ : ∃ f, f = q.Off / 8 := ⟨_, rfl⟩
  have hf3 : 0 ≤ f ∧ f < 8192 := by omega
  have hflag : fl = f + (if q.DF = true then 16384 else 0) + (if q.More = true then 8192 else 0) := by rw [← hfl, hf2]; rfl
  have o1 := flag_df hf3.1 hf3.2
  have o2 := flag_mf hf3.1 hf3.2
  have o3 := flag_both hf3.1 hf3.2
  have w1 : IntKind.i64.wrap f = f := IntWalk.i64_in _ (by omega)
  have w2 : wrap64 f = f := IntWalk.wrap64_in _ (by omega)
  have NUM := hid (fields_num (nb := nb) (hd := hd) (fl := fl) (T := q.TOS) (L := q.TTL) (Pr := q.Proto) ⟨by rw [C.out.sum]; omega, C.out.small.1⟩ (by rw [HH.out]; have := C.out.small.2; omega) ⟨y1, y2⟩ b1 b3 b2)
  obtain ⟨c0, c1', c2', c3', c20, c37, c38, c39, c40, c41, c42, c43, c44, c45⟩ := (S.out.pk 1 rfl).cells L3 L4
  simp only [pkO] at c0 c1' c2' c3' c20 c37 c38 c39 c40 c41 c42 c43 c44 c45
  have hf : q.Off.tdiv 8 = f := by rw [hf2]; exact Int.tdiv_eq_ediv_of_nonneg c1.1
  clear hf2
  go_upto_region 9 with fail
  go_upto_if 46 with fail
  go_cut [7] from 8 (fun v wc => v = .int .i64 (f + (if q.DF = true then 16384 else 0)) ∧ w' = wc)
  case first =>
    cases hdf : q.DF
    · rw [hdf] at c40
      go_wp2_with fail
      go_meet
      exact ⟨by rw [hdf]; simp, rfl⟩
    · rw [hdf] at c40
      go_wp2_with fail
      go_meet
      exact ⟨by rw [hdf, if_pos rfl], rfl⟩
  case rest =>
  obtain ⟨rfl, rfl⟩ := hcut
  go_upto_if 50 with fail
  go_cut [7] from 8 (fun v wc => v = .int .i64 fl ∧ w' = wc)
  case first =>
    cases hmf : q.More <;> cases hdf : q.DF
    all_goals
      rw [hmf] at c41 hflag
      rw [hdf] at hflag
      simp only [Bool.false_eq_true, if_false, if_true, Int.add_zero] at hflag
      (try rw [if_neg (by rw [hdf]; decide)])
      (try rw [if_pos hdf])
      (try rw [Int.add_zero])
      go_wp2_with fail
      go_meet
      refine ⟨congrArg (Value.int .i64) ?_, rfl⟩
    · exact hflag.symm
    · exact hflag.symm
    · exact hflag.symm
    · rw [hflag, Int.add_assoc]; rfl
  case rest =>
  obtain ⟨rfl, rfl⟩ := hcut
  have k0 := S.out.rowcell 0 rfl (j := 0) (by rw [C.out.lb, C.out.sum]; omega)
  have k1 := S.out.rowcell 0 rfl (j := 1) (by rw [C.out.lb, C.out.sum]; omega)
  have k2 := S.out.rowcell 0 rfl (j := 2) (by rw [C.out.lb, C.out.sum]; omega)
  have k3 := S.out.rowcell 0 rfl (j := 3) (by rw [C.out.lb, C.out.sum]; omega)
  have k4 := S.out.rowcell 0 rfl (j := 4) (by rw [C.out.lb, C.out.sum]; omega)
  have k5 := S.out.rowcell 0 rfl (j := 5) (by rw [C.out.lb, C.out.sum]; omega)
  have k6 := S.out.rowcell 0 rfl (j := 6) (by rw [C.out.lb, C.out.sum]; omega)
  have k7 := S.out.rowcell 0 rfl (j := 7) (by rw [C.out.lb, C.out.sum]; omega)
  have k8 := S.out.rowcell 0 rfl (j := 8) (by rw [C.out.lb, C.out.sum]; omega)
  have k9 := S.out.rowcell 0 rfl (j := 9) (by rw [C.out.lb, C.out.sum]; omega)
  rw [show gt (b4L q os xs) 0 = 64 + (hd : Int) / 4 from by rw [HH.out, ← C.out.lo]; rfl] at k0
  rw [show gt (b4L q os xs) 1 = q.TOS from rfl] at k1
  rw [show gt (b4L q os xs) 2 = (nb : Int) / 256 from by rw [C.out.sum, ← C.out.lo, ← C.out.ln]; rfl] at k2
  rw [show gt (b4L q os xs) 3 = (nb : Int) % 256 from by rw [C.out.sum, ← C.out.lo, ← C.out.ln]; rfl] at k3
  rw [show gt (b4L q os xs) 4 = q.ID / 256 from rfl] at k4
  rw [show gt (b4L q os xs) 5 = q.ID % 256 from rfl] at k5
  rw [show gt (b4L q os xs) 6 = fl / 256 from by rw [← hfl]; rfl] at k6
  rw [show gt (b4L q os xs) 7 = fl % 256 from by rw [← hfl]; rfl] at k7
  rw [show gt (b4L q os xs) 8 = q.TTL from rfl] at k8
  rw [show gt (b4L q os xs) 9 = q.Proto from rfl] at k9
  obtain ⟨v3, v4, x1, x2, x3, x4, x5, x6, x7, x8, x9, x10, m1, m2⟩ := NUM.out
  unfold V64 at v3 v4 x1 x2 x3 x4 x5 x6 x7 x8 x9 x10
  have hn20 : 20 ≤ nb := by rw [C.out.sum]; exact Nat.le_trans (Nat.le_add_right 20 no) (Nat.le_add_right _ _)
  clear t0 t1 t2 a0 a1 a2 a3 b1 b2 b3 c1 c2 c3 d1 d2 y1 y2 e5 e6 hf
  clear hfl hflag o1 o2 o3 hf3 w1 w2
  go_upto_region 13 with fail
  have m3 := or_word32 HQ.out.id0 t3
  clear t3
  refine wp_region_quiet_lit (by kernel_rfl) (by as_aux_lemma => kernel_rfl) ?_
  simp only [List.append]
  (repeat (go_big_quiet_step (fail)))
  refine wpQuiet_nil ?_
  intro _ hw'
  obtain ⟨nq, hw''⟩ := hw'
  subst hw''
  obtain ⟨w4, hw4⟩ : ∃ w4, w4 = w'.drewN nq := ⟨_, rfl⟩
  rw [← hw4]
  replace S := hid (show Sp w w4 _ from S.out.keep (by rw [hw4]; exact (Same.drewN _ _).below _))
  clear hw4 k0 k1 k2 k3 k4 k5 k6 k7 k8 k9 c0 c1' c2' c3' c20 c37 c38 c39 c40 c41 c42 c43 c44 c45 v3 v4 x1 x2 x3 x4 x5 x6 x7 x8 x9 x10 m1 m2 m3
  go_upto_region 15 with fail
  have Q1 := HQ.out.src
  have Q2 := HQ.out.dst
  have hcc := (S.out.cap 0 rfl).1
  have RS := pk_src_rb (n := 4) (S.out.pk 1 rfl) Q1 (by decide)
  have RD := pk_dst_rb (n := 4) (S.out.pk 1 rfl) L3 Q2 (by decide)
  have RO := S.out.rb 3 rfl C.out.yo
  have RX := S.out.rb 2 rfl C.out.yx
  have c44 := ((S.out.pk 1 rfl).cells L3 L4).c44
  have c45 := ((S.out.pk 1 rfl).cells L3 L4).c45
  simp only [pkO] at c44 c45
  have YB := C.out.yb
  obtain ⟨g12, g16, g20, gh⟩ := parts4 (os := os) (xs := xs) L3 L4
  have hl := HH.out
  have hn := C.out.sum
  have RA := (S.out.rb 0 rfl YB).sub 12 16 (by decide) (by rw [C.out.lb, hn, Nat.add_assoc]; exact Nat.le_trans (by decide) (Nat.le_add_right 20 _))
  have RB := (S.out.rb 0 rfl YB).sub 16 20 (by decide) (by rw [C.out.lb, hn, Nat.add_assoc]; exact Nat.le_add_right 20 _)
  have RC := (S.out.rb 0 rfl YB).sub 20 hd (by rw [hl]; exact Nat.le_add_right 20 _) (by rw [C.out.lb, hn, hl]; exact Nat.le_add_right _ _)
  have RE := (S.out.rb 0 rfl YB).back hd (by rw [C.out.lb, hn, hl]; exact Nat.le_add_right _ _)
  rw [show (16 : Nat) - 12 = 4 from rfl, g12] at RA
  rw [show (20 : Nat) - 16 = 4 from rfl, g16] at RB
  rw [show ((b4L q os xs).drop 20).take (hd - 20) = os from by rw [hl, Nat.add_sub_cancel_left, ← C.out.lo]; exact g20] at RC
  rw [show (b4L q os xs).drop hd = xs from by rw [hl, ← C.out.lo]; exact gh, C.out.lb] at RE
  have hd20 : 20 ≤ hd := by rw [hl]; exact Nat.le_add_right 20 _
  have hdn : hd ≤ nb := by rw [hn, hl]; exact Nat.le_add_right _ _
  have hdc : hd ≤ cc := Nat.le_trans hdn hcc
  clear hl hn g12 g16 g20 gh
  unfold subA at RA RB RC RE
  rw [if_neg (by omega)] at RA RB
  replace RA := hid RA
  replace RB := hid RB
  replace RS := hid RS
  replace RD := hid RD
  replace RO := hid RO
  replace RX := hid RX
  have SA := hid (fun W v u (m : List Int) (h1 : Rb W v m) (h2 : Rb W u m) => (show Calls Tryd.prog 16 #[v, u] W (SameP W true) from by have := sameB_any v u _ _ W h1 h2; rwa [decide_eq_true rfl] at this))
  go_cut [165] from 132 (fun v wc => v = .bool false ∧ Same w4 wc)
  case first =>
    have hc : (cc ≠ 20 ∧ cc ≠ hd) ∨ (cc ≠ 20 ∧ hd = cc) ∨ cc = 20 := by omega
    rcases hc with ⟨h20, hch⟩ | ⟨h20, hch⟩ | hch
    · rw [if_neg h20] at RC
      rw [if_neg hch] at RE
      have h0 : ¬ hd = 0 := by omega
      replace RE : Rb w4 (.slice (some ⟨ga, hd, none⟩) (nb - hd) (cc - hd)) xs := by simpa [Addr.add, h0] using RE
      clear h0
      replace RC := hid RC
      replace RE := hid RE
      go_quiet ((go_at_call 16; first | exact Calls.quiet_of_same (SA.out _ _ _ _ (RA.out.same (Same.drewN _ _)) (RS.out.same (Same.drewN _ _))) | exact Calls.quiet_of_same (SA.out _ _ _ _ (RB.out.same (Same.drewN _ _)) (RD.out.same (Same.drewN _ _))) | exact Calls.quiet_of_same (SA.out _ _ _ _ (RC.out.same (Same.drewN _ _)) (RO.out.same (Same.drewN _ _))) | exact Calls.quiet_of_same (SA.out _ _ _ _ (RE.out.same (Same.drewN _ _)) (RX.out.same (Same.drewN _ _)))))
      go_wp2_with fail
      go_meet
      exact ⟨rfl, Same.drewN _ _⟩
    · obtain rfl : hd = nb := by omega
      subst hch
      rw [if_neg h20] at RC
      rw [if_pos rfl, Nat.sub_self] at RE
      replace RC := hid RC
      replace RE := hid RE
      go_quiet ((go_at_call 16; first | exact Calls.quiet_of_same (SA.out _ _ _ _ (RA.out.same (Same.drewN _ _)) (RS.out.same (Same.drewN _ _))) | exact Calls.quiet_of_same (SA.out _ _ _ _ (RB.out.same (Same.drewN _ _)) (RD.out.same (Same.drewN _ _))) | exact Calls.quiet_of_same (SA.out _ _ _ _ (RC.out.same (Same.drewN _ _)) (RO.out.same (Same.drewN _ _))) | exact Calls.quiet_of_same (SA.out _ _ _ _ (RE.out.same (Same.drewN _ _)) (RX.out.same (Same.drewN _ _)))))
      go_wp2_with fail
      go_meet
      exact ⟨rfl, Same.drewN _ _⟩
    · obtain rfl : nb = 20 := by omega
      obtain rfl : hd = 20 := by omega
      subst hch
      rw [if_pos rfl] at RC RE
      replace RC := hid RC
      replace RE := hid RE
      clear hd20 hdn hdc hcc hn20
      go_quiet ((go_at_call 16; first | exact Calls.quiet_of_same (SA.out _ _ _ _ (RA.out.same (Same.drewN _ _)) (RS.out.same (Same.drewN _ _))) | exact Calls.quiet_of_same (SA.out _ _ _ _ (RB.out.same (Same.drewN _ _)) (RD.out.same (Same.drewN _ _))) | exact Calls.quiet_of_same (SA.out _ _ _ _ (RC.out.same (Same.drewN _ _)) (RO.out.same (Same.drewN _ _))) | exact Calls.quiet_of_same (SA.out _ _ _ _ (RE.out.same (Same.drewN _ _)) (RX.out.same (Same.drewN _ _)))))
      go_wp2_with fail
      go_meet
      exact ⟨rfl, Same.drewN _ _⟩
  case rest =>
  obtain ⟨rfl, hS4⟩ := hcut
  replace S := hid (S.out.same hS4)
  clear hS4 RA RB RC RE RS RD RO RX SA c44 c45 hcc hdc
  have w' := wc
  have hhd : hd ≤ 60 ∧ hd % 2 = 0 := by
    have h1 := C.out.small.2
    have h2 := (validB_len (right4_parts RG.out).2.2.2.2.2.1).2
    have h3 := C.out.lo
    have h4 := HH.out
    omega
  have LB := C.out.lb
  have W0 := hid (wsum_bd (YB.take hd))
  have FULL := hid (show foldL (wsum ((b4L q os xs).take hd)) = 65535 from by
    have hp := h4_byt HQ.out C.out.yo RG.out (s := 0) (by decide) (by decide)
    have e : (b4L q os xs).take hd = h4 q os xs.length (sum4 q os xs.length) := List.take_left' (by rw [h4_len L3 L4, HH.out, C.out.lo])
    rw [e]
    exact sum_full hp)
  generalize b4L q os xs = bl at *
  clear NUM HDC RG HQ C HH Q1 Q2
  go_upto_region 19 with fail
  go_loopw [8, 9] (fun nv iv wr => ∃ j : Nat, (j ≤ hd ∧ j % 2 = 0) ∧ nv = .int .i64 (wsum (bl.take j)) ∧ iv = .int .i64 (j : Int) ∧ Same wc wr) (fun _ iv _ => (hd - intOf iv).toNat)
  · exact ⟨0, by omega, rfl, rfl, Same.refl _⟩
  · obtain ⟨j, hj, rfl, rfl, hS⟩ := hrel
    replace S := hid (S.out.same hS)
    have w' := wr
    by_cases hlt : j < hd
    · obtain ⟨j1, j2, s, a, c, s2, hjj, ga1, gc1, hs1, hs2, e1, e2, e3, e4, e5, e6, e7, f1, f2, f3, f4, f5, f6⟩ := sum_round YB hj.2 (by rw [LB]; omega) (by omega)
      have k0 := S.out.rowcell 0 rfl (j := j) (by rw [LB]; omega)
      have k1 := S.out.rowcell 0 rfl (j := j1) (by rw [LB]; omega)
      rw [ga1] at k0
      rw [gc1] at k1
      have i1 : (j : Int) < (nb : Int) := by omega
      have i2 : (j1 : Int) < (nb : Int) := by omega
      have hd1 : decide ((j : Int) < (hd : Int)) = true := by simp; omega
      have HS2 := hid hs2
      have HJ := hid hjj
      have HS := hid hS
      rw [hs1]
      clear S hs1 hs2 ga1 gc1 hjj hS
      go_upto_region 21 with fail
      go_quiet (fail)
      go_wp2_with fail
      go_roundw
      case rel =>
        refine ⟨j2, ?_, ?_, ?_, HS.out.trans (Same.drewN _ _)⟩
        · have := HJ.out; omega
        · first | rfl | rw [HS2.out]
        · first | rfl | exact congrArg (Value.int .i64) (by have := HJ.out; omega)
      case measure =>
        have := HJ.out
        simp [intOf]
        omega
    · obtain rfl : j = hd := by omega
      have hd1 : decide ((j : Int) < (j : Int)) = false := by simp
      have hw := W0.out
      have hf := FULL.out
      have hb0 : 0 ≤ wsum (bl.take j) ∧ wsum (bl.take j) ≤ 4000000 := by
        rw [List.length_take] at hw
        omega
      obtain ⟨s0, hs0⟩ : ∃ s0, wsum (bl.take j) = s0 := ⟨_, rfl⟩
      rw [hs0] at hb0 hf
      rw [hs0]
      have hf := hid hf
      clear hs0 hw W0 FULL
      go_upto_region 22 with fail
      go_loopw [8] (fun nv wr2 => ∃ s : Int, (0 ≤ s ∧ s ≤ 4000000) ∧ foldL s = 65535 ∧ nv = .int .i64 s ∧ Same wr wr2) (fun nv _ => (intOf nv).toNat)
      · exact ⟨s0, hb0, hf.out, rfl, Same.refl _⟩
      · obtain ⟨s, hsb, hsf, rfl, hS2⟩ := hrel
        by_cases hgt : 65535 < s
        · obtain ⟨m, hm, hmb, hms, h1, h2, h3⟩ := fold_round hsb.1 hsb.2 hsf hgt
          have HM := hid (And.intro hmb hms)
          have HS2 := hid hS2
          clear hsf hS2 hmb hms
          go_wp2_with fail
          go_roundw
          case rel => exact ⟨m, ⟨HM.out.1.1, HM.out.1.2.1⟩, HM.out.1.2.2, rfl, HS2.out⟩
          case measure =>
            have := HM.out
            simp [intOf]
            omega
        · have hs65 : s = 65535 := by rwa [foldL_small hsb.1 (by omega)] at hsf
          subst hs65
          go_wp2_with fail
          go_ret
          exact P.out _ _ rfl (S.out.same hS2).nil
end Go.Proofs.YtaecfcaeopmiaaaDoor
