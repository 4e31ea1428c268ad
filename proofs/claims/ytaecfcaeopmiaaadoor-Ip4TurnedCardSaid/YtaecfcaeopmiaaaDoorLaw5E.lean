/-
  The statement Ip4Turned, walked.
-/
import Derived.Test.YtaecfcaeopmiaaaDoorMnd
import Derived.Test.YtaecfcaeopmiaaaDoorPl4c
import Derived.Test.YtaecfcaeopmiaaaDoorStillT
namespace Go.Proofs.YtaecfcaeopmiaaaDoor
open Go.RowKit

/-- the place of a bit: past the first byte, within the whole -/
theorem turn_place (a : Int) {n : Nat} (h : 20 ≤ n) (hn : n ≤ 65535) : ∃ r : Int, a.tmod (8 * (n : Int)) = r ∧ -(8 * (n : Int)) < r ∧ r < 8 * (n : Int) := by
  refine ⟨_, rfl, ?_⟩
  have h0 : (0 : Int) < 8 * (n : Int) := by omega
  constructor
  · have := Int.lt_tmod_of_pos a h0
    omega
  · exact Int.tmod_lt_of_pos a h0
theorem bit_range {r : Int} (h : 0 ≤ r) : 0 ≤ r.tmod 8 ∧ r.tmod 8 ≤ 7 := by
  rw [Int.tmod_eq_emod_of_nonneg h]
  omega
theorem turn_split {n nb : Nat} (h : 8 ≤ n ∧ n < 8 * nb) (hb : nb ≤ 65535) : ∃ k j : Nat, (j < 8 ∧ 1 ≤ k ∧ k < nb) ∧ (n : Int).tdiv 8 = (k : Int) ∧ (n : Int).tmod 8 = (j : Int) ∧ wrap64 (k : Int) = k ∧ IntKind.i64.wrap (k : Int) = k ∧ IntKind.i64.wrap (j : Int) = j ∧ (k : Int) < (nb : Int) := by
  refine ⟨n / 8, n % 8, by omega, ?_, ?_, IntWalk.wrap64_in _ (by omega), IntWalk.i64_in _ (by omega), IntWalk.i64_in _ (by omega), by omega⟩
  · rw [Int.tdiv_eq_ediv_of_nonneg (by omega)]; omega
  · rw [Int.tmod_eq_emod_of_nonneg (by omega)]; omega
theorem sub_head (no nx : Nat) (h : 20 + no + nx ≤ 65535) : wrap64 (((20 + no + nx : Nat) : Int) - (nx : Int)) = ((20 + no : Nat) : Int) := by
  rw [IntWalk.wrap64_in _ (by omega)]
  omega
theorem bit_u8 {j : Nat} (h : j < 8) : 1 ≤ IntKind.u8.wrap (2 ^ j) ∧ IntKind.u8.wrap (2 ^ j) ≤ 255 := by
  have : ∀ j : Fin 8, 1 ≤ IntKind.u8.wrap (2 ^ j.1) ∧ IntKind.u8.wrap (2 ^ j.1) ≤ 255 := by decide
  exact this ⟨j, h⟩
/-- the bytes of a packet whose Data has one byte turned -/
theorem turned_data {q : Pk} {os xs : List Int} {j : Nat} {x : Int} (hq : IsPk q) (yo : Byt os) (yx : Byt xs) (hr : right4 q os xs.length = true) (hx : 0 ≤ x ∧ x ≤ 255) :
    RC4 q os (xs.set j x) ((b4L q os xs).set (20 + os.length + j) x) os.length xs.length (b4L q os xs).length := by
  have h := rc4_of hq yo (yx.set j hx.1 hx.2) (by rw [List.length_set]; exact hr)
  rw [List.length_set, b4L_set hq.src.len hq.dst.len, List.length_set] at h
  exact h
theorem gt_data {q : Pk} {os xs : List Int} {j : Nat} (hq : IsPk q) : gt (b4L q os xs) (20 + os.length + j) = gt xs j := by
  unfold b4L
  simp only [gt, List.getD_eq_getElem?_getD]
  rw [List.getElem?_append_right (by rw [h4_len hq.src.len hq.dst.len]; omega), h4_len hq.src.len hq.dst.len, show 20 + os.length + j - (20 + os.length) = j by omega]
def TurnCase (q : Pk) (os xs : List Int) (no nx nb k hd : Nat) (y : Int) : Prop :=
  (k < hd ∧ ∃ e : Int, Hid (∀ v W, Rb W v ((b4L q os xs).set k y) → Tab W → Calls Tryd.prog 13 #[v] W (APost W (.tuple #[.agg (pkC pk0), .int .i64 e]))) ∧ (e == 0) = false ∧ (e != 0) = true) ∨
  (¬ k < hd ∧ ∃ kd : Nat, kd < nx ∧ wrap64 ((k : Int) - (hd : Int)) = (kd : Int) ∧ IntKind.i64.wrap ((k : Int) - (hd : Int)) = (kd : Int) ∧ IntKind.i64.wrap (kd : Int) = (kd : Int) ∧ (kd : Int) < (nx : Int) ∧ gt xs kd = gt (b4L q os xs) k ∧ Hid (RC4 q os (xs.set kd y) ((b4L q os xs).set k y) no nx nb))
theorem turn_cases {q : Pk} {os xs : List Int} {no nx nb k : Nat} {y : Int} (HQ : IsPk q) (C : RC4 q os xs (b4L q os xs) no nx nb) (hr : right4 q os xs.length = true) (hx : os.length = no ∧ xs.length = nx) (hn : nb = 20 + no + nx) (hkn : 1 ≤ k ∧ k < nb)
    (hyb : 0 ≤ y ∧ y ≤ 255) (hyn : y ≠ gt (b4L q os xs) k) : ∃ hd : Nat, wrap64 ((nb : Int) - (nx : Int)) = (hd : Int) ∧ TurnCase q os xs no nx nb k hd y := by
  obtain ⟨h1, h2⟩ := hx
  have lb := C.lb
  have hs := C.small.1
  refine ⟨20 + no, by rw [hn]; exact sub_head no nx (by rw [← hn]; exact hs), ?_⟩
  by_cases hk : k < 20 + no
  · have he := turn4_head HQ C.yo C.yx hr (k := k) (x := y) hkn.1 (by rw [h1]; exact hk) hyb hyn
    exact .inl ⟨hk, _, hid fun v W h hT => par_no4 he (by rw [List.length_set, lb]; omega) v W h hT, by simpa using he, by simpa using he⟩
  · obtain ⟨kd, hkd⟩ : ∃ kd, k = 20 + no + kd := ⟨k - (20 + no), by omega⟩
    refine .inr ⟨hk, kd, by omega, ?_, ?_, IntWalk.i64_in _ (by omega), by omega, ?_, ?_⟩
    · rw [IntWalk.wrap64_in _ (by omega)]; omega
    · rw [IntWalk.i64_in _ (by omega)]; omega
    · rw [hkd, ← h1]; exact (gt_data HQ).symm
    · have := turned_data (j := kd) HQ C.yo C.yx hr hyb
      rw [h1, h2, lb, ← hkd] at this
      exact hid this
/-- what a mended packet is, with the contracts about it -/
def MendD (w : World) (en : Ending) (w' : World) : Prop :=
  ∃ q os xs no nx nb so co sx cx, en = .returned (.agg (pkC (pkO q (.slice so no co) (.slice sx nx cx)))) ∧ Sp w w' [.row (.slice sx nx cx) 5 1 nx (bts xs), .row (.slice so no co) 5 1 no (bts os)] ∧
    IsPk q ∧ Byt os ∧ Byt xs ∧ (os.length = no ∧ xs.length = nx ∧ nb = 20 + no + nx) ∧ right4 q os xs.length = true ∧ RC4 q os xs (b4L q os xs) no nx nb
theorem mend_d (p : Pk) (lo ld : List Int) (w : World) (h : Pin w p lo ld) (hl : lo.length ≤ 140737488355328 ∧ ld.length ≤ 140737488355328) : Calls Tryd.prog 25 #[.agg (pkC p)] w (MendD w) := by
  refine (mend_any p lo ld w h hl).mono fun _ _ hh => ?_
  obtain ⟨q, no, xs, nx, so, co, sx, cx, he, hS, hq, yx, hx, hr⟩ := hh
  have hC := rc4_of hq (ones_byt no) yx hr
  have hs := hC.sum
  have hlb := hC.lb
  rw [List.length_replicate, hx] at hC hs
  exact ⟨_, _, _, _, _, _, _, _, _, _, he, hS, hq, ones_byt no, yx, ⟨List.length_replicate .., hx, hs⟩, hr, hC⟩
set_option maxHeartbeats 1000000 in
set_option maxRecDepth 20000 in
theorem ip4Turned_any (p : Pk) (lo ld : List Int) (at_ : Int) (w : World) (hT : Tab w) (h : Pin w p lo ld) (hll : lo.length ≤ 140737488355328 ∧ ld.length ≤ 140737488355328) (_ : -9223372036854775808 ≤ at_ ∧ at_ ≤ 9223372036854775807) :
    Calls Tryd.prog 7 #[.agg (pkC p), .int .i64 at_] w (APost w (.bool true)) := by
  have L1 := h.pk.src.len
  have L2 := h.pk.dst.len
  have PI := hid h
  have TB := hid hT
  have MD := hid (fun W (hP : Pin W p lo ld) => mend_d p lo ld W hP hll)
  unfold MendD at MD
  have SZ := hid same_zeroP
  have AL := hid (fun W (hW : Tab W) => alive5_any W hW)
  have OB := hid (fun W v xs (hv : Rb W v xs) (hx : xs.length ≤ 140737488355328) => ownB_any v xs W hv hx)
  have P := hid (fun en w' (h1 : en = .returned (.bool true)) (h2 : Sp w w' []) => show APost w (.bool true) en w' from ⟨h1, h2.bel⟩)
  have S : Hid (Sp w (w.alloc (.cells (pkC p) 30)) [.blk w.heap.size (pkC p) 30]) := hid (Sp.in1 ..)
  clear h hT hll
  go_enter Tryd.func7, Tryd.ntmps7
  go_upto_region 1 with fail
  generalize w.alloc (.cells (pkC p) 30) = w' at *
  generalize w.heap.size = b at *
  go_upto_region 5 with (first
    | go_skip
    | (((with_reducible show wpList _ _ _ (_ :: _) _ (World.alloc _ (.cells _ 30))); refine wpList_world fun w' hw2 => ?_; replace S := hid (show Sp _ _ (.blk _ (pkC pk0) 30 :: _) from S.out.alloc hw2); clear hw2))
    | ((with_reducible show wpList _ _ _ _ _ _)
       first
       | ((with_reducible show wpList _ _ _ (⟨_, .load 30 _, _, _, _, _⟩ :: _) _ _); first | (refine wpList_getW (by rfl) _ rfl S.out _ rfl 0 _ rfl (by first | rfl | assumption) (by first | rfl | assumption) ?_) | (refine wpList_getW (by rfl) _ rfl S.out _ rfl 1 _ rfl (by first | rfl | assumption) (by first | rfl | assumption) ?_) | (refine wpList_getW (by rfl) _ rfl S.out _ rfl 2 _ rfl (by first | rfl | assumption) (by first | rfl | assumption) ?_) | (refine wpList_getW (by rfl) _ rfl S.out _ rfl 3 _ rfl (by first | rfl | assumption) (by first | rfl | assumption) ?_) | (refine wpList_getW (by rfl) _ rfl S.out _ rfl 4 _ rfl (by first | rfl | assumption) (by first | rfl | assumption) ?_) | (refine wpList_getW (by rfl) _ rfl S.out _ rfl 5 _ rfl (by first | rfl | assumption) (by first | rfl | assumption) ?_))
       | ((with_reducible show wpList _ _ _ (⟨_, .store _ _ _, _, _, _, _⟩ :: _) _ _); first | (refine wpList_putW (by rfl) _ _ rfl rfl S.out _ rfl 0 _ rfl _ rfl (by first | rfl | assumption) (by first | rfl | assumption) (by first | rfl | assumption) (by first | rfl | assumption) (by first | rfl | assumption) (by first | rfl | assumption) ?_; intro w' hS; simp only [List.set] at hS; replace S := hid hS; clear hS) | (refine wpList_putW (by rfl) _ _ rfl rfl S.out _ rfl 1 _ rfl _ rfl (by first | rfl | assumption) (by first | rfl | assumption) (by first | rfl | assumption) (by first | rfl | assumption) (by first | rfl | assumption) (by first | rfl | assumption) ?_; intro w' hS; simp only [List.set] at hS; replace S := hid hS; clear hS) | (refine wpList_putW (by rfl) _ _ rfl rfl S.out _ rfl 2 _ rfl _ rfl (by first | rfl | assumption) (by first | rfl | assumption) (by first | rfl | assumption) (by first | rfl | assumption) (by first | rfl | assumption) (by first | rfl | assumption) ?_; intro w' hS; simp only [List.set] at hS; replace S := hid hS; clear hS) | (refine wpList_putW (by rfl) _ _ rfl rfl S.out _ rfl 3 _ rfl _ rfl (by first | rfl | assumption) (by first | rfl | assumption) (by first | rfl | assumption) (by first | rfl | assumption) (by first | rfl | assumption) (by first | rfl | assumption) ?_; intro w' hS; simp only [List.set] at hS; replace S := hid hS; clear hS) | (refine wpList_putW (by rfl) _ _ rfl rfl S.out _ rfl 4 _ rfl _ rfl (by first | rfl | assumption) (by first | rfl | assumption) (by first | rfl | assumption) (by first | rfl | assumption) (by first | rfl | assumption) (by first | rfl | assumption) ?_; intro w' hS; simp only [List.set] at hS; replace S := hid hS; clear hS)))
    | (go_at_call 11; refine (AL.out _ (TB.out.below S.out.bel)).mono ?_; rintro en w' ⟨rfl, hb⟩; replace S := hid (S.out.keep hb); clear hb)
    | (go_at_call 25; refine (MD.out _ (PI.out.below S.out.bel)).mono ?_; rintro en w' ⟨q, os, xs, no, nx, nb, so, co, sx, cx, rfl, hS, hq, yo, yx, ⟨ho, hx, hn⟩, hr, hC⟩; have HQ := hid hq; have L3 := hq.src.len; have L4 := hq.dst.len; have RG := hid hr; have HX := hid (⟨ho, hx⟩ : _ ∧ _); have C := hid hC; have HN := hid hn; clear hq yo yx ho hx hr hC hn; replace hS := S.out.call hS; simp only [List.cons_append, List.nil_append] at hS; replace S := hid hS; clear hS)
    | (go_at_call 26; refine (C.out.own _ _ _ (by first | exact C.out.pin _ _ _ rfl rfl (S.out.rb 1 rfl C.out.yo) (S.out.rb 0 rfl C.out.yx) | exact C.out.pin _ _ _ rfl rfl (S.out.rb 2 rfl C.out.yo) (S.out.rb 1 rfl C.out.yx) | exact C.out.pin _ _ _ rfl rfl (S.out.rb 3 rfl C.out.yo) (S.out.rb 2 rfl C.out.yx) | exact C.out.pin _ _ _ rfl rfl (S.out.rb 4 rfl C.out.yo) (S.out.rb 3 rfl C.out.yx) | exact C.out.pin _ _ _ rfl rfl (S.out.rb 5 rfl C.out.yo) (S.out.rb 4 rfl C.out.yx) | exact C.out.pin _ _ _ rfl rfl (S.out.rb 6 rfl C.out.yo) (S.out.rb 5 rfl C.out.yx) | exact C.out.pin _ _ _ rfl rfl (S.out.rb 7 rfl C.out.yo) (S.out.rb 6 rfl C.out.yx) | exact C.out.pin _ _ _ rfl rfl (S.out.rb 8 rfl C.out.yo) (S.out.rb 7 rfl C.out.yx))).mono ?_; rintro en w' ⟨so2, co2, sx2, cx2, rfl, hS⟩; have P2 := hid (C.out.pin _ _ _ rfl rfl (hS.rb 1 rfl C.out.yo) (hS.rb 0 rfl C.out.yx)); replace S := hid (S.out.keep hS.bel); clear hS)
    | (go_at_call 18; refine (C.out.bld _ _ _ P2.out (TB.out.below S.out.bel)).mono ?_; clear P2; rintro en w' ⟨ca, cc, rfl, hS⟩; replace hS := S.out.call hS; simp only [List.cons_append, List.nil_append] at hS; replace S := hid hS; clear hS))
  (try simp only [Act.put, List.setIfInBounds_toArray, List.set_cons_zero, List.set_cons_succ])
  obtain ⟨hsm, hsn⟩ := C.out.small
  have YB := C.out.yb
  have hnb : 20 ≤ nb := by have := HN.out; omega
  have hnb0 : 0 < nb := Nat.lt_of_lt_of_le (by decide) hnb
  obtain ⟨r, er, hr0, hr1⟩ := turn_place at_ hnb hsm
  have e8 : wrap64 (8 * (nb : Int)) = 8 * (nb : Int) := IntWalk.wrap64_in _ (by omega)
  have n8' : ¬ 8 * (nb : Int) = 0 := by omega
  have n20 : decide ((nb : Int) < 20) = false := by simp; omega
  go_upto_if 36 with (first | go_skip)
  go_cut [8] from 9 (fun v wc => ∃ m : Int, (0 ≤ m ∧ m < 8 * nb) ∧ v = .int .i64 m ∧ w' = wc)
  case first =>
    by_cases hneg : r < 0
    · have e10 : wrap64 (-r) = -r := IntWalk.wrap64_in _ (by omega)
      go_wp2_with (first | go_skip)
      go_meet
      exact ⟨-r, by omega, rfl, rfl⟩
    · go_wp2_with (first | go_skip)
      go_meet
      exact ⟨r, by omega, rfl, rfl⟩
  case rest =>
  obtain ⟨m, hm, rfl, rfl⟩ := hcut
  clear er e8 n8' n20 hr0 hr1
  go_upto_if 40 with (first | go_skip)
  go_cut [8] from 9 (fun v wc => ∃ n : Nat, (8 ≤ n ∧ n < 8 * nb) ∧ v = .int .i64 (n : Int) ∧ w' = wc)
  case first =>
    by_cases hneg : m < 8
    · have e10 : wrap64 (m + 8) = m + 8 := IntWalk.wrap64_in _ (by omega)
      go_wp2_with (first | go_skip)
      go_meet
      exact ⟨(m + 8).toNat, by omega, by rw [Int.toNat_of_nonneg (by omega)], rfl⟩
    · go_wp2_with (first | go_skip)
      go_meet
      exact ⟨m.toNat, by omega, by rw [Int.toNat_of_nonneg (by omega)], rfl⟩
  case rest =>
  obtain ⟨n, hn, rfl, rfl⟩ := hcut
  clear hm
  obtain ⟨k, j, ⟨hj8, hkn⟩, t1, t2, t3, t4, t5, hki⟩ := turn_split hn hsm
  clear hn
  go_upto_region 13 with (first
    | go_skip
    | (go_at_call 12; refine (OB.out _ _ _ (by (first | exact S.out.rb 0 rfl (by assumption) | exact S.out.rb 1 rfl (by assumption) | exact S.out.rb 2 rfl (by assumption) | exact S.out.rb 3 rfl (by assumption) | exact S.out.rb 4 rfl (by assumption) | exact S.out.rb 5 rfl (by assumption) | exact S.out.rb 6 rfl (by assumption))) (by have := C.out.lb; omega)).mono ?_; rintro en w' ⟨sw, cw, rfl, hS⟩; rw [C.out.lb] at hS ⊢; replace hS := S.out.call hS; simp only [List.cons_append, List.nil_append] at hS; replace S := hid hS; clear hS))
  obtain ⟨g1, c1, hv⟩ := S.out.rowopen 0 rfl hnb0
  simp only [Value.slice.injEq, true_and] at hv
  obtain ⟨rfl, rfl⟩ := hv
  have YK := YB.bd k
  have lb := C.out.lb
  refine wp_still_tail' 13 (by kernel_rfl) (by kernel_rfl) fun w' hS => ?_
  replace S := hid (S.out.same hS)
  clear hS
  have z := S.out.rowcell 0 rfl (j := k) (by rw [lb]; exact hkn.2)
  simp only [List.take_succ_cons, List.take_zero, List.drop_succ_cons, List.drop_zero]
  (repeat still_step)
  clear z
  refine wpStill_nil ?_
  refine wpList_put_row (by rfl) _ _ rfl rfl S.out _ _ rfl _ rfl 0 _ _ _ rfl hkn.2 ?_; intro w' hS; simp only [List.set] at hS; replace S := hid hS; clear hS
  obtain ⟨bt, hbt⟩ : ∃ bt, IntKind.u8.wrap (2 ^ j) = bt := ⟨_, rfl⟩
  have hb2 := bit_u8 hj8
  rw [hbt] at S hb2
  obtain ⟨y, hy⟩ : ∃ y, bits .xor .u8 (gt (b4L q os xs) k) bt = y := ⟨_, rfl⟩
  obtain ⟨hyb, hyn⟩ := u8_xor YK hb2
  rw [hy] at S hyb hyn
  obtain ⟨hd, t6, CS⟩ := turn_cases HQ.out C.out RG.out HX.out HN.out hkn hyb hyn
  have YS := YB.set k hyb.1 hyb.2
  have LS : ((b4L q os xs).set k y).length = nb := by rw [List.length_set]; exact lb
  clear HQ RG HX HN hyn YK
  rcases CS with ⟨hlt, e, PB, hk1, hk2⟩ | ⟨hlt, kd, hkd, s1, s2, s3, s4, s5, C2⟩
  · go_wp2_with (first
      | go_skip
      | (((with_reducible show wpList _ _ _ (_ :: _) _ (World.alloc _ (.cells _ 30))); refine wpList_world fun w' hw2 => ?_; replace S := hid (show Sp _ _ (.blk _ (pkC pk0) 30 :: _) from S.out.alloc hw2); clear hw2))
      | ((with_reducible show wpList _ _ _ _ _ _)
         first
         | ((with_reducible show wpList _ _ _ (⟨_, .load 30 _, _, _, _, _⟩ :: _) _ _); first | (refine wpList_getW (by rfl) _ rfl S.out _ rfl 0 _ rfl (by first | rfl | assumption) (by first | rfl | assumption) ?_) | (refine wpList_getW (by rfl) _ rfl S.out _ rfl 1 _ rfl (by first | rfl | assumption) (by first | rfl | assumption) ?_) | (refine wpList_getW (by rfl) _ rfl S.out _ rfl 2 _ rfl (by first | rfl | assumption) (by first | rfl | assumption) ?_) | (refine wpList_getW (by rfl) _ rfl S.out _ rfl 3 _ rfl (by first | rfl | assumption) (by first | rfl | assumption) ?_) | (refine wpList_getW (by rfl) _ rfl S.out _ rfl 4 _ rfl (by first | rfl | assumption) (by first | rfl | assumption) ?_) | (refine wpList_getW (by rfl) _ rfl S.out _ rfl 5 _ rfl (by first | rfl | assumption) (by first | rfl | assumption) ?_))
         | ((with_reducible show wpList _ _ _ (⟨_, .load _ _, _, _, _, _⟩ :: _) _ _); first | (refine wpList_get_pk (by rfl) _ _ rfl S.out _ _ rfl 1 _ rfl (.slice _ nx _) (by rfl) (by rfl) L3 L4 ?_) | (refine wpList_get_pk (by rfl) _ _ rfl S.out _ _ rfl 2 _ rfl (.slice _ nx _) (by rfl) (by rfl) L3 L4 ?_) | (refine wpList_get_pk (by rfl) _ _ rfl S.out _ _ rfl 3 _ rfl (.slice _ nx _) (by rfl) (by rfl) L3 L4 ?_) | (refine wpList_get_pk (by rfl) _ _ rfl S.out _ _ rfl 4 _ rfl (.slice _ nx _) (by rfl) (by rfl) L3 L4 ?_) | (refine wpList_get_pk (by rfl) _ _ rfl S.out _ _ rfl 5 _ rfl (.slice _ nx _) (by rfl) (by rfl) L3 L4 ?_))
         | ((with_reducible show wpList _ _ _ (⟨_, .store _ _ _, _, _, _, _⟩ :: _) _ _); first | (refine wpList_putW (by rfl) _ _ rfl rfl S.out _ rfl 0 _ rfl _ rfl (by first | rfl | assumption) (by first | rfl | assumption) (by first | rfl | assumption) (by first | rfl | assumption) (by first | rfl | assumption) (by first | rfl | assumption) ?_; intro w' hS; simp only [List.set] at hS; replace S := hid hS; clear hS) | (refine wpList_putW (by rfl) _ _ rfl rfl S.out _ rfl 1 _ rfl _ rfl (by first | rfl | assumption) (by first | rfl | assumption) (by first | rfl | assumption) (by first | rfl | assumption) (by first | rfl | assumption) (by first | rfl | assumption) ?_; intro w' hS; simp only [List.set] at hS; replace S := hid hS; clear hS) | (refine wpList_putW (by rfl) _ _ rfl rfl S.out _ rfl 2 _ rfl _ rfl (by first | rfl | assumption) (by first | rfl | assumption) (by first | rfl | assumption) (by first | rfl | assumption) (by first | rfl | assumption) (by first | rfl | assumption) ?_; intro w' hS; simp only [List.set] at hS; replace S := hid hS; clear hS) | (refine wpList_putW (by rfl) _ _ rfl rfl S.out _ rfl 3 _ rfl _ rfl (by first | rfl | assumption) (by first | rfl | assumption) (by first | rfl | assumption) (by first | rfl | assumption) (by first | rfl | assumption) (by first | rfl | assumption) ?_; intro w' hS; simp only [List.set] at hS; replace S := hid hS; clear hS) | (refine wpList_putW (by rfl) _ _ rfl rfl S.out _ rfl 4 _ rfl _ rfl (by first | rfl | assumption) (by first | rfl | assumption) (by first | rfl | assumption) (by first | rfl | assumption) (by first | rfl | assumption) (by first | rfl | assumption) ?_; intro w' hS; simp only [List.set] at hS; replace S := hid hS; clear hS)))
      | (go_at_call 12; refine (OB.out _ _ _ (by (first | exact S.out.rb 0 rfl (by assumption) | exact S.out.rb 1 rfl (by assumption) | exact S.out.rb 2 rfl (by assumption) | exact S.out.rb 3 rfl (by assumption) | exact S.out.rb 4 rfl (by assumption) | exact S.out.rb 5 rfl (by assumption) | exact S.out.rb 6 rfl (by assumption))) (by rw [LS]; omega)).mono ?_; rintro en w' ⟨sz, cz, rfl, hS⟩; rw [LS] at hS ⊢; replace hS := S.out.call hS; simp only [List.cons_append, List.nil_append] at hS; replace S := hid hS; clear hS)
      | (go_at_call 13; refine (PB.out _ _ (by (first | exact S.out.rb 0 rfl (by assumption) | exact S.out.rb 1 rfl (by assumption) | exact S.out.rb 2 rfl (by assumption) | exact S.out.rb 3 rfl (by assumption) | exact S.out.rb 4 rfl (by assumption) | exact S.out.rb 5 rfl (by assumption) | exact S.out.rb 6 rfl (by assumption))) (TB.out.below S.out.bel)).mono ?_; rintro en w' ⟨rfl, hb⟩; replace S := hid (S.out.keep hb); clear hb)
      | (go_at_call 15; refine (SZ.out _).mono ?_; rintro en w' ⟨rfl, hb⟩; replace S := hid (S.out.keep hb); clear hb))
    go_ret
    exact P.out _ _ rfl S.out.nil
  · obtain ⟨g2, c2, hv⟩ := S.out.rowopen 3 rfl (Nat.lt_of_le_of_lt (Nat.zero_le _) hkd)
    simp only [Value.slice.injEq, true_and] at hv
    obtain ⟨rfl, rfl⟩ := hv
    have ln := C.out.ln
    go_upto_region 18 with (first
      | go_skip
      | (((with_reducible show wpList _ _ _ (_ :: _) _ (World.alloc _ (.cells _ 30))); refine wpList_world fun w' hw2 => ?_; replace S := hid (show Sp _ _ (.blk _ (pkC pk0) 30 :: _) from S.out.alloc hw2); clear hw2))
      | ((with_reducible show wpList _ _ _ _ _ _)
         first
         | ((with_reducible show wpList _ _ _ (⟨_, .load 30 _, _, _, _, _⟩ :: _) _ _); first | (refine wpList_getW (by rfl) _ rfl S.out _ rfl 0 _ rfl (by first | rfl | assumption) (by first | rfl | assumption) ?_) | (refine wpList_getW (by rfl) _ rfl S.out _ rfl 1 _ rfl (by first | rfl | assumption) (by first | rfl | assumption) ?_) | (refine wpList_getW (by rfl) _ rfl S.out _ rfl 2 _ rfl (by first | rfl | assumption) (by first | rfl | assumption) ?_) | (refine wpList_getW (by rfl) _ rfl S.out _ rfl 3 _ rfl (by first | rfl | assumption) (by first | rfl | assumption) ?_) | (refine wpList_getW (by rfl) _ rfl S.out _ rfl 4 _ rfl (by first | rfl | assumption) (by first | rfl | assumption) ?_) | (refine wpList_getW (by rfl) _ rfl S.out _ rfl 5 _ rfl (by first | rfl | assumption) (by first | rfl | assumption) ?_))
         | ((with_reducible show wpList _ _ _ (⟨_, .load _ _, _, _, _, _⟩ :: _) _ _); first | (refine wpList_get_pk (by rfl) _ _ rfl S.out _ _ rfl 1 _ rfl (.slice _ nx _) (by rfl) (by rfl) L3 L4 ?_) | (refine wpList_get_pk (by rfl) _ _ rfl S.out _ _ rfl 2 _ rfl (.slice _ nx _) (by rfl) (by rfl) L3 L4 ?_) | (refine wpList_get_pk (by rfl) _ _ rfl S.out _ _ rfl 3 _ rfl (.slice _ nx _) (by rfl) (by rfl) L3 L4 ?_) | (refine wpList_get_pk (by rfl) _ _ rfl S.out _ _ rfl 4 _ rfl (.slice _ nx _) (by rfl) (by rfl) L3 L4 ?_) | (refine wpList_get_pk (by rfl) _ _ rfl S.out _ _ rfl 5 _ rfl (.slice _ nx _) (by rfl) (by rfl) L3 L4 ?_))
         | ((with_reducible show wpList _ _ _ (⟨_, .store _ _ _, _, _, _, _⟩ :: _) _ _); first | (refine wpList_putW (by rfl) _ _ rfl rfl S.out _ rfl 0 _ rfl _ rfl (by first | rfl | assumption) (by first | rfl | assumption) (by first | rfl | assumption) (by first | rfl | assumption) (by first | rfl | assumption) (by first | rfl | assumption) ?_; intro w' hS; simp only [List.set] at hS; replace S := hid hS; clear hS) | (refine wpList_putW (by rfl) _ _ rfl rfl S.out _ rfl 1 _ rfl _ rfl (by first | rfl | assumption) (by first | rfl | assumption) (by first | rfl | assumption) (by first | rfl | assumption) (by first | rfl | assumption) (by first | rfl | assumption) ?_; intro w' hS; simp only [List.set] at hS; replace S := hid hS; clear hS) | (refine wpList_putW (by rfl) _ _ rfl rfl S.out _ rfl 2 _ rfl _ rfl (by first | rfl | assumption) (by first | rfl | assumption) (by first | rfl | assumption) (by first | rfl | assumption) (by first | rfl | assumption) (by first | rfl | assumption) ?_; intro w' hS; simp only [List.set] at hS; replace S := hid hS; clear hS) | (refine wpList_putW (by rfl) _ _ rfl rfl S.out _ rfl 3 _ rfl _ rfl (by first | rfl | assumption) (by first | rfl | assumption) (by first | rfl | assumption) (by first | rfl | assumption) (by first | rfl | assumption) (by first | rfl | assumption) ?_; intro w' hS; simp only [List.set] at hS; replace S := hid hS; clear hS) | (refine wpList_putW (by rfl) _ _ rfl rfl S.out _ rfl 4 _ rfl _ rfl (by first | rfl | assumption) (by first | rfl | assumption) (by first | rfl | assumption) (by first | rfl | assumption) (by first | rfl | assumption) (by first | rfl | assumption) ?_; intro w' hS; simp only [List.set] at hS; replace S := hid hS; clear hS)))
      | (go_at_call 12; refine (OB.out _ _ _ (by (first | exact S.out.rb 0 rfl (by assumption) | exact S.out.rb 1 rfl (by assumption) | exact S.out.rb 2 rfl (by assumption) | exact S.out.rb 3 rfl (by assumption) | exact S.out.rb 4 rfl (by assumption) | exact S.out.rb 5 rfl (by assumption) | exact S.out.rb 6 rfl (by assumption))) (by rw [LS]; omega)).mono ?_; rintro en w' ⟨sz, cz, rfl, hS⟩; rw [LS] at hS ⊢; replace hS := S.out.call hS; simp only [List.cons_append, List.nil_append] at hS; replace S := hid hS; clear hS)
      | (go_at_call 13; refine (C2.out.par _ _ (by (first | exact S.out.rb 0 rfl (by assumption) | exact S.out.rb 1 rfl (by assumption) | exact S.out.rb 2 rfl (by assumption) | exact S.out.rb 3 rfl (by assumption) | exact S.out.rb 4 rfl (by assumption) | exact S.out.rb 5 rfl (by assumption) | exact S.out.rb 6 rfl (by assumption))) (TB.out.below S.out.bel)).mono ?_; rintro en w' ⟨so3, co3, sx3, cx3, rfl, hS⟩; replace S := hid (S.out.sub (List.sublist_cons_self _ _)); replace hS := S.out.call hS; simp only [List.cons_append, List.nil_append] at hS; replace S := hid hS; clear hS))
    refine wp_still_tail' 19 (by kernel_rfl) (by kernel_rfl) fun w' hS => ?_
    replace S := hid (S.out.same hS)
    clear hS
    have c45 : w'.cell? _ = some (Value.slice (some ⟨g2, 0, none⟩) nx cx) := ((S.out.pk 5 rfl).cells L3 L4).c45
    have z := S.out.rowcell 6 rfl (j := kd) (by rw [ln]; exact hkd)
    simp only [List.take_succ_cons, List.take_zero, List.drop_succ_cons, List.drop_zero]
    (repeat still_step)
    clear z c45
    refine wpStill_nil ?_
    refine wpList_put_row (by rfl) _ _ rfl rfl S.out _ _ rfl _ rfl 6 _ _ _ rfl hkd ?_; intro w' hS; simp only [List.set] at hS; replace S := hid hS; clear hS
    clear C
    have C := C2
    go_wp2_with (first
      | go_skip
      | ((with_reducible show wpList _ _ _ _ _ _); (with_reducible show wpList _ _ _ (⟨_, .load 30 _, _, _, _, _⟩ :: _) _ _); first | (refine wpList_getW (by rfl) _ rfl S.out _ rfl 0 _ rfl (by first | rfl | assumption) (by first | rfl | assumption) ?_) | (refine wpList_getW (by rfl) _ rfl S.out _ rfl 1 _ rfl (by first | rfl | assumption) (by first | rfl | assumption) ?_) | (refine wpList_getW (by rfl) _ rfl S.out _ rfl 2 _ rfl (by first | rfl | assumption) (by first | rfl | assumption) ?_) | (refine wpList_getW (by rfl) _ rfl S.out _ rfl 3 _ rfl (by first | rfl | assumption) (by first | rfl | assumption) ?_) | (refine wpList_getW (by rfl) _ rfl S.out _ rfl 4 _ rfl (by first | rfl | assumption) (by first | rfl | assumption) ?_) | (refine wpList_getW (by rfl) _ rfl S.out _ rfl 5 _ rfl (by first | rfl | assumption) (by first | rfl | assumption) ?_))
      | (go_at_call 15; refine (C.out.same _ _ _ _ _ (by first | exact C.out.pin _ _ _ rfl rfl (S.out.rb 1 rfl C.out.yo) (S.out.rb 0 rfl C.out.yx) | exact C.out.pin _ _ _ rfl rfl (S.out.rb 2 rfl C.out.yo) (S.out.rb 1 rfl C.out.yx) | exact C.out.pin _ _ _ rfl rfl (S.out.rb 3 rfl C.out.yo) (S.out.rb 2 rfl C.out.yx) | exact C.out.pin _ _ _ rfl rfl (S.out.rb 4 rfl C.out.yo) (S.out.rb 3 rfl C.out.yx) | exact C.out.pin _ _ _ rfl rfl (S.out.rb 5 rfl C.out.yo) (S.out.rb 4 rfl C.out.yx) | exact C.out.pin _ _ _ rfl rfl (S.out.rb 6 rfl C.out.yo) (S.out.rb 5 rfl C.out.yx) | exact C.out.pin _ _ _ rfl rfl (S.out.rb 7 rfl C.out.yo) (S.out.rb 6 rfl C.out.yx) | exact C.out.pin _ _ _ rfl rfl (S.out.rb 8 rfl C.out.yo) (S.out.rb 7 rfl C.out.yx)) (by first | exact C.out.pin _ _ _ rfl rfl (S.out.rb 1 rfl C.out.yo) (S.out.rb 0 rfl C.out.yx) | exact C.out.pin _ _ _ rfl rfl (S.out.rb 2 rfl C.out.yo) (S.out.rb 1 rfl C.out.yx) | exact C.out.pin _ _ _ rfl rfl (S.out.rb 3 rfl C.out.yo) (S.out.rb 2 rfl C.out.yx) | exact C.out.pin _ _ _ rfl rfl (S.out.rb 4 rfl C.out.yo) (S.out.rb 3 rfl C.out.yx) | exact C.out.pin _ _ _ rfl rfl (S.out.rb 5 rfl C.out.yo) (S.out.rb 4 rfl C.out.yx) | exact C.out.pin _ _ _ rfl rfl (S.out.rb 6 rfl C.out.yo) (S.out.rb 5 rfl C.out.yx) | exact C.out.pin _ _ _ rfl rfl (S.out.rb 7 rfl C.out.yo) (S.out.rb 6 rfl C.out.yx) | exact C.out.pin _ _ _ rfl rfl (S.out.rb 8 rfl C.out.yo) (S.out.rb 7 rfl C.out.yx))).mono ?_; rintro en w' ⟨rfl, hb⟩; replace S := hid (S.out.keep hb); clear hb))
    go_ret
    exact P.out _ _ rfl S.out.nil
end Go.Proofs.YtaecfcaeopmiaaaDoor
