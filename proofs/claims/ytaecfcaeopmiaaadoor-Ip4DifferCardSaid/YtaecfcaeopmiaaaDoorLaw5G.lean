/-
  The statement Ip4Differ, walked.
-/
import Derived.Test.YtaecfcaeopmiaaaDoorMnd
namespace Go.Proofs.YtaecfcaeopmiaaaDoor
open Go.RowKit

theorem right4_mk {p : Pk} {os : List Int} {n : Nat} (h : (p.V = 4 ∧ p.Flow = 0 ∧ p.Frag = false ∧ p.ID ≤ 65535) ∧ (p.sV = 4 ∧ zerosB (p.sB.drop 4) = true) ∧ (p.dV = 4 ∧ zerosB (p.dB.drop 4) = true) ∧
    ((0 ≤ p.TOS ∧ p.TOS ≤ 255) ∧ (0 ≤ p.Proto ∧ p.Proto ≤ 255) ∧ 0 ≤ p.TTL ∧ p.TTL ≤ 255) ∧ ((0 ≤ p.Off ∧ p.Off ≤ 65528 ∧ p.Off % 8 = 0 ∧ p.Off + n ≤ 65535) ∧ (p.More = true → n ≠ 0 ∧ n % 8 = 0) ∧ (p.Off = 0 ∨ 0 < n)) ∧ validB os = true ∧ 20 + os.length + n ≤ 65535) : right4 p os n = true := by
  obtain ⟨h1, h2, h3, h4, h5, h6, h7⟩ := h
  unfold right4 four4 placed4
  simp only [Bool.and_eq_true, decide_eq_true_eq]
  exact ⟨⟨⟨⟨⟨⟨h1, h2⟩, h3⟩, h4⟩, h5⟩, h6⟩, h7⟩
/-- right packets have the same bytes just if they are the same -/
theorem same_bytes {q z : Pk} {os oz xs xz : List Int} (hq : IsPk q) (hz : IsPk z) (yo : Byt os) (yx : Byt xs) (zo : Byt oz) (zx : Byt xz) (hr : right4 q os xs.length = true) (hr2 : right4 z oz xz.length = true) (o x o' x' : Value) :
    sameK (pkO q o x) (pkO z o' x') os oz xs xz = decide (b4L q os xs = b4L z oz xz) := by
  obtain ⟨-, -, e1, e2, e3⟩ := back4 hq yo yx hr
  obtain ⟨-, -, f1, f2, f3⟩ := back4 hz zo zx hr2
  by_cases h : b4L q os xs = b4L z oz xz
  · rw [decide_eq_true h]
    rw [h] at e1 e2 e3
    obtain rfl : os = oz := e1.symm.trans f1
    obtain rfl : xs = xz := e2.symm.trans f2
    rw [← f3, e3]
    exact sameK_self ..
  · rw [decide_eq_false h]
    refine Bool.eq_false_iff.2 fun hc => h ?_
    unfold sameK at hc
    simp only [Bool.and_eq_true, decide_eq_true_eq, beq_iff_eq] at hc
    obtain ⟨⟨⟨⟨⟨⟨⟨⟨⟨⟨⟨⟨⟨h1, h2⟩, h3⟩, h4, h5⟩, h6, h7⟩, h8⟩, h9⟩, h10⟩, h11⟩, h12⟩, h13⟩, h14⟩, rfl⟩, rfl⟩ := hc
    have : pkO q o x = pkO z o x := by
      cases q; cases z
      simp only [pkO] at h1 h2 h3 h4 h5 h6 h7 h8 h9 h10 h11 h12 h13 h14 ⊢
      simp only [h1, h2, h3, h4, h5, h6, h7, h8, h9, h10, h11, h12, h13, h14]
    show b4L (pkO q o x) os xs = b4L (pkO z o x) os xs
    rw [this]
/-- what a mended packet is, with the contracts about it -/
def MendR (w : World) (en : Ending) (w' : World) : Prop :=
  ∃ q os xs no nx nb so co sx cx, en = .returned (.agg (pkC (pkO q (.slice so no co) (.slice sx nx cx)))) ∧ Sp w w' [.row (.slice sx nx cx) 5 1 nx (bts xs), .row (.slice so no co) 5 1 no (bts os)] ∧
    IsPk q ∧ right4 q os xs.length = true ∧ RC4 q os xs (b4L q os xs) no nx nb
theorem mend_r (p : Pk) (lo ld : List Int) (w : World) (h : Pin w p lo ld) (hl : lo.length ≤ 140737488355328 ∧ ld.length ≤ 140737488355328) : Calls Tryd.prog 25 #[.agg (pkC p)] w (MendR w) := by
  refine (mend_any p lo ld w h hl).mono fun _ _ hh => ?_
  obtain ⟨q, no, xs, nx, so, co, sx, cx, he, hS, hq, yx, hx, hr⟩ := hh
  have hC := rc4_of hq (ones_byt no) yx hr
  rw [List.length_replicate, hx] at hC
  exact ⟨_, _, _, _, _, _, _, _, _, _, he, hS, hq, hr, hC⟩
def DiffZ (w : World) (q : Pk) (os xs : List Int) (no nx b7 b9 : Nat) (so : Option Go.Addr) (co : Nat) (sx : Option Go.Addr) (cx : Nat) (wc : World) : Prop :=
  ∃ z oz xz mo mx mb sa ca sb cb, IsPk z ∧ right4 z oz xz.length = true ∧ RC4 z oz xz (b4L z oz xz) mo mx mb ∧
    Sp w wc [.blk b9 (pkC (pkO z (.slice sa mo ca) (.slice sb mx cb))) 30, .row (.slice sb mx cb) 5 1 mx (bts xz), .row (.slice sa mo ca) 5 1 mo (bts oz),
      .blk b7 (pkC (pkO q (.slice so no co) (.slice sx nx cx))) 30, .row (.slice sx nx cx) 5 1 nx (bts xs), .row (.slice so no co) 5 1 no (bts os)]
theorem DiffZ.of {w wc : World} {q : Pk} {os xs : List Int} {no nx b7 b9 : Nat} {so : Option Go.Addr} {co : Nat} {sx : Option Go.Addr} {cx : Nat} (z : Pk) {oz xz : List Int} {mo mx : Nat} {sa ca sb cb} (hz : IsPk z) (zo : Byt oz) (zx : Byt xz) (hl : oz.length = mo) (hl2 : xz.length = mx)
    (hr : right4 z oz xz.length = true) (hS : Sp w wc [.blk b9 (pkC (pkO z (.slice sa mo ca) (.slice sb mx cb))) 30, .row (.slice sb mx cb) 5 1 mx (bts xz), .row (.slice sa mo ca) 5 1 mo (bts oz),
      .blk b7 (pkC (pkO q (.slice so no co) (.slice sx nx cx))) 30, .row (.slice sx nx cx) 5 1 nx (bts xs), .row (.slice so no co) 5 1 no (bts os)]) : DiffZ w q os xs no nx b7 b9 so co sx cx wc := by
  have hC := rc4_of hz zo zx hr
  rw [hl, hl2] at hC
  exact ⟨z, oz, xz, mo, mx, _, sa, ca, sb, cb, hz, hr, hC, hS⟩
set_option maxHeartbeats 1000000 in
set_option maxRecDepth 20000 in
theorem ip4Differ_any (p : Pk) (lo ld : List Int) (p2 : Pk) (lo2 ld2 : List Int) (hw : Int) (w : World) (hT : Tab w) (h : Pin w p lo ld) (hll : lo.length ≤ 140737488355328 ∧ ld.length ≤ 140737488355328) (h2 : Pin w p2 lo2 ld2) (hll2 : lo2.length ≤ 140737488355328 ∧ ld2.length ≤ 140737488355328)
    (_ : -9223372036854775808 ≤ hw ∧ hw ≤ 9223372036854775807) : Calls Tryd.prog 8 #[.agg (pkC p), .agg (pkC p2), .int .i64 hw] w (APost w (.bool true)) := by
  have L1 := h.pk.src.len
  have L2 := h.pk.dst.len
  have L5 := h2.pk.src.len
  have L6 := h2.pk.dst.len
  have PI := hid h
  have PJ := hid h2
  have TB := hid hT
  have MD := hid (fun W (hP : Pin W p lo ld) => mend_r p lo ld W hP hll)
  have MD2 := hid (fun W (hP : Pin W p2 lo2 ld2) => mend_r p2 lo2 ld2 W hP hll2)
  unfold MendR at MD MD2
  have AL := hid (fun W (hW : Tab W) => alive5_any W hW)
  obtain ⟨d, e7, hd⟩ : ∃ d : Int, bits .and .i64 hw 7 = d ∧ 0 ≤ d ∧ d ≤ 7 := ⟨_, i64_andlow hw 3 7 (by decide) (by decide), by omega⟩
  have D := hid hd
  have P := hid (fun en w' (h1 : en = .returned (.bool true)) (h2 : Sp w w' []) => show APost w (.bool true) en w' from ⟨h1, h2.bel⟩)
  have S : Hid (Sp w ((w.alloc (.cells (pkC p) 30)).alloc (.cells (pkC p2) 30)) [.blk (w.heap.size + 1) (pkC p2) 30, .blk w.heap.size (pkC p) 30]) := hid (Sp.in2 ..)
  clear h hT hll h2 hll2 hd
  go_enter Tryd.func8, Tryd.ntmps8
  go_upto_region 1 with fail
  generalize (w.alloc (.cells (pkC p) 30)).alloc (.cells (pkC p2) 30) = w' at *
  generalize w.heap.size = b at *
  go_upto_region 4 with (first
    | go_skip
    | (((with_reducible show wpList _ _ _ (_ :: _) _ (World.alloc _ (.cells _ 30))); refine wpList_world fun w' hw2 => ?_; replace S := hid (show Sp _ _ (.blk _ (pkC pk0) 30 :: _) from S.out.alloc hw2); clear hw2))
    | ((with_reducible show wpList _ _ _ _ _ _)
       first
       | ((with_reducible show wpList _ _ _ (⟨_, .load 30 _, _, _, _, _⟩ :: _) _ _); first | (refine wpList_getW (by rfl) _ rfl S.out _ rfl 0 _ rfl (by first | rfl | assumption) (by first | rfl | assumption) ?_) | (refine wpList_getW (by rfl) _ rfl S.out _ rfl 1 _ rfl (by first | rfl | assumption) (by first | rfl | assumption) ?_) | (refine wpList_getW (by rfl) _ rfl S.out _ rfl 2 _ rfl (by first | rfl | assumption) (by first | rfl | assumption) ?_) | (refine wpList_getW (by rfl) _ rfl S.out _ rfl 3 _ rfl (by first | rfl | assumption) (by first | rfl | assumption) ?_) | (refine wpList_getW (by rfl) _ rfl S.out _ rfl 4 _ rfl (by first | rfl | assumption) (by first | rfl | assumption) ?_) | (refine wpList_getW (by rfl) _ rfl S.out _ rfl 5 _ rfl (by first | rfl | assumption) (by first | rfl | assumption) ?_))
       | ((with_reducible show wpList _ _ _ (⟨_, .store _ _ _, _, _, _, _⟩ :: _) _ _); first | (refine wpList_putW (by rfl) _ _ rfl rfl S.out _ rfl 0 _ rfl _ rfl (by first | rfl | assumption) (by first | rfl | assumption) (by first | rfl | assumption) (by first | rfl | assumption) (by first | rfl | assumption) (by first | rfl | assumption) ?_; intro w' hS; simp only [List.set] at hS; replace S := hid hS; clear hS) | (refine wpList_putW (by rfl) _ _ rfl rfl S.out _ rfl 1 _ rfl _ rfl (by first | rfl | assumption) (by first | rfl | assumption) (by first | rfl | assumption) (by first | rfl | assumption) (by first | rfl | assumption) (by first | rfl | assumption) ?_; intro w' hS; simp only [List.set] at hS; replace S := hid hS; clear hS) | (refine wpList_putW (by rfl) _ _ rfl rfl S.out _ rfl 2 _ rfl _ rfl (by first | rfl | assumption) (by first | rfl | assumption) (by first | rfl | assumption) (by first | rfl | assumption) (by first | rfl | assumption) (by first | rfl | assumption) ?_; intro w' hS; simp only [List.set] at hS; replace S := hid hS; clear hS) | (refine wpList_putW (by rfl) _ _ rfl rfl S.out _ rfl 3 _ rfl _ rfl (by first | rfl | assumption) (by first | rfl | assumption) (by first | rfl | assumption) (by first | rfl | assumption) (by first | rfl | assumption) (by first | rfl | assumption) ?_; intro w' hS; simp only [List.set] at hS; replace S := hid hS; clear hS) | (refine wpList_putW (by rfl) _ _ rfl rfl S.out _ rfl 4 _ rfl _ rfl (by first | rfl | assumption) (by first | rfl | assumption) (by first | rfl | assumption) (by first | rfl | assumption) (by first | rfl | assumption) (by first | rfl | assumption) ?_; intro w' hS; simp only [List.set] at hS; replace S := hid hS; clear hS)))
    | (go_at_call 11; refine (AL.out _ (TB.out.below S.out.bel)).mono ?_; rintro en w' ⟨rfl, hb⟩; replace S := hid (S.out.keep hb); clear hb)
    | (go_at_call 25; refine (MD.out _ (PI.out.below S.out.bel)).mono ?_; rintro en w' ⟨q, os, xs, no, nx, nb, so, co, sx, cx, rfl, hS, hq, hr, hC⟩; have HQ := hid hq; have L3 := hq.src.len; have L4 := hq.dst.len; have RG := hid hr; have C := hid hC; clear hq hr hC; replace hS := S.out.call hS; simp only [List.cons_append, List.nil_append] at hS; replace S := hid hS; clear hS))
  (try simp only [Act.put, List.setIfInBounds_toArray, List.set_cons_zero, List.set_cons_succ])
  generalize hb7 : (World.heap _).size = b7 at S ⊢
  go_upto_region 5 with (first
    | go_skip
    | (((with_reducible show wpList _ _ _ (_ :: _) _ (World.alloc _ (.cells _ 30))); refine wpList_world fun w' hw2 => ?_; replace S := hid (show Sp _ _ (.blk _ (pkC pk0) 30 :: _) from S.out.alloc hw2); clear hw2))
    | ((with_reducible show wpList _ _ _ _ _ _)
       first
       | ((with_reducible show wpList _ _ _ (⟨_, .load 30 _, _, _, _, _⟩ :: _) _ _); first | (refine wpList_getW (by rfl) _ rfl S.out _ rfl 0 _ rfl (by first | rfl | assumption) (by first | rfl | assumption) ?_) | (refine wpList_getW (by rfl) _ rfl S.out _ rfl 1 _ rfl (by first | rfl | assumption) (by first | rfl | assumption) ?_) | (refine wpList_getW (by rfl) _ rfl S.out _ rfl 2 _ rfl (by first | rfl | assumption) (by first | rfl | assumption) ?_) | (refine wpList_getW (by rfl) _ rfl S.out _ rfl 3 _ rfl (by first | rfl | assumption) (by first | rfl | assumption) ?_) | (refine wpList_getW (by rfl) _ rfl S.out _ rfl 4 _ rfl (by first | rfl | assumption) (by first | rfl | assumption) ?_) | (refine wpList_getW (by rfl) _ rfl S.out _ rfl 5 _ rfl (by first | rfl | assumption) (by first | rfl | assumption) ?_))
       | ((with_reducible show wpList _ _ _ (⟨_, .store _ _ _, _, _, _, _⟩ :: _) _ _); first | (refine wpList_putW (by rfl) _ _ rfl rfl S.out _ rfl 0 _ rfl _ rfl (by first | rfl | assumption) (by first | rfl | assumption) (by first | rfl | assumption) (by first | rfl | assumption) (by first | rfl | assumption) (by first | rfl | assumption) ?_; intro w' hS; simp only [List.set] at hS; replace S := hid hS; clear hS) | (refine wpList_putW (by rfl) _ _ rfl rfl S.out _ rfl 1 _ rfl _ rfl (by first | rfl | assumption) (by first | rfl | assumption) (by first | rfl | assumption) (by first | rfl | assumption) (by first | rfl | assumption) (by first | rfl | assumption) ?_; intro w' hS; simp only [List.set] at hS; replace S := hid hS; clear hS) | (refine wpList_putW (by rfl) _ _ rfl rfl S.out _ rfl 2 _ rfl _ rfl (by first | rfl | assumption) (by first | rfl | assumption) (by first | rfl | assumption) (by first | rfl | assumption) (by first | rfl | assumption) (by first | rfl | assumption) ?_; intro w' hS; simp only [List.set] at hS; replace S := hid hS; clear hS) | (refine wpList_putW (by rfl) _ _ rfl rfl S.out _ rfl 3 _ rfl _ rfl (by first | rfl | assumption) (by first | rfl | assumption) (by first | rfl | assumption) (by first | rfl | assumption) (by first | rfl | assumption) (by first | rfl | assumption) ?_; intro w' hS; simp only [List.set] at hS; replace S := hid hS; clear hS) | (refine wpList_putW (by rfl) _ _ rfl rfl S.out _ rfl 4 _ rfl _ rfl (by first | rfl | assumption) (by first | rfl | assumption) (by first | rfl | assumption) (by first | rfl | assumption) (by first | rfl | assumption) (by first | rfl | assumption) ?_; intro w' hS; simp only [List.set] at hS; replace S := hid hS; clear hS)))
    | (go_at_call 25; refine (MD2.out _ (PJ.out.below S.out.bel)).mono ?_; rintro en w' ⟨q2, os2, xs2, no2, nx2, nb2, so2, co2, sx2, cx2, rfl, hS, hq, hr, hC⟩; have HQ2 := hid hq; have L7 := hq.src.len; have L8 := hq.dst.len; have RG2 := hid hr; have C2 := hid hC; clear hq hr hC; replace hS := S.out.call hS; simp only [List.cons_append, List.nil_append] at hS; replace S := hid hS; clear hS))
  (try simp only [Act.put, List.setIfInBounds_toArray, List.set_cons_zero, List.set_cons_succ])
  generalize hb8 : (World.heap _).size = b8 at S ⊢
  go_upto_region 6 with (first
    | go_skip
    | (((with_reducible show wpList _ _ _ (_ :: _) _ (World.alloc _ (.cells _ 30))); refine wpList_world fun w' hw2 => ?_; replace S := hid (show Sp _ _ (.blk _ (pkC pk0) 30 :: _) from S.out.alloc hw2); clear hw2))
    | ((with_reducible show wpList _ _ _ _ _ _)
       first
       | ((with_reducible show wpList _ _ _ (⟨_, .load 30 _, _, _, _, _⟩ :: _) _ _); first | (refine wpList_getW (by rfl) _ rfl S.out _ rfl 0 _ rfl (by first | rfl | assumption) (by first | rfl | assumption) ?_) | (refine wpList_getW (by rfl) _ rfl S.out _ rfl 1 _ rfl (by first | rfl | assumption) (by first | rfl | assumption) ?_) | (refine wpList_getW (by rfl) _ rfl S.out _ rfl 2 _ rfl (by first | rfl | assumption) (by first | rfl | assumption) ?_) | (refine wpList_getW (by rfl) _ rfl S.out _ rfl 3 _ rfl (by first | rfl | assumption) (by first | rfl | assumption) ?_) | (refine wpList_getW (by rfl) _ rfl S.out _ rfl 4 _ rfl (by first | rfl | assumption) (by first | rfl | assumption) ?_) | (refine wpList_getW (by rfl) _ rfl S.out _ rfl 5 _ rfl (by first | rfl | assumption) (by first | rfl | assumption) ?_))
       | ((with_reducible show wpList _ _ _ (⟨_, .store _ _ _, _, _, _, _⟩ :: _) _ _); first | (refine wpList_putW (by rfl) _ _ rfl rfl S.out _ rfl 0 _ rfl _ rfl (by first | rfl | assumption) (by first | rfl | assumption) (by first | rfl | assumption) (by first | rfl | assumption) (by first | rfl | assumption) (by first | rfl | assumption) ?_; intro w' hS; simp only [List.set] at hS; replace S := hid hS; clear hS) | (refine wpList_putW (by rfl) _ _ rfl rfl S.out _ rfl 1 _ rfl _ rfl (by first | rfl | assumption) (by first | rfl | assumption) (by first | rfl | assumption) (by first | rfl | assumption) (by first | rfl | assumption) (by first | rfl | assumption) ?_; intro w' hS; simp only [List.set] at hS; replace S := hid hS; clear hS) | (refine wpList_putW (by rfl) _ _ rfl rfl S.out _ rfl 2 _ rfl _ rfl (by first | rfl | assumption) (by first | rfl | assumption) (by first | rfl | assumption) (by first | rfl | assumption) (by first | rfl | assumption) (by first | rfl | assumption) ?_; intro w' hS; simp only [List.set] at hS; replace S := hid hS; clear hS) | (refine wpList_putW (by rfl) _ _ rfl rfl S.out _ rfl 3 _ rfl _ rfl (by first | rfl | assumption) (by first | rfl | assumption) (by first | rfl | assumption) (by first | rfl | assumption) (by first | rfl | assumption) (by first | rfl | assumption) ?_; intro w' hS; simp only [List.set] at hS; replace S := hid hS; clear hS) | (refine wpList_putW (by rfl) _ _ rfl rfl S.out _ rfl 4 _ rfl _ rfl (by first | rfl | assumption) (by first | rfl | assumption) (by first | rfl | assumption) (by first | rfl | assumption) (by first | rfl | assumption) (by first | rfl | assumption) ?_; intro w' hS; simp only [List.set] at hS; replace S := hid hS; clear hS)))
    | (go_at_call 26; refine (C.out.own _ _ _ (C.out.pin _ _ _ rfl rfl (S.out.rb 5 rfl C.out.yo) (S.out.rb 4 rfl C.out.yx))).mono ?_; rintro en w' ⟨so3, co3, sx3, cx3, rfl, hS⟩; replace hS := S.out.call hS; simp only [List.cons_append, List.nil_append] at hS; replace S := hid hS; clear hS))
  (try simp only [Act.put, List.setIfInBounds_toArray, List.set_cons_zero, List.set_cons_succ])
  generalize hb9 : (World.heap _).size = b9 at S ⊢
  clear hb7 hb8 hb9 MD MD2
  go_upto_block 0 with fail
  go_cut [] from 10 (fun wc => DiffZ w q os xs no nx b7 b9 so co sx cx wc)
  case first =>
    have hd := D.out
    have hd2 : d = 0 ∨ d = 1 ∨ d = 2 ∨ d = 3 ∨ d = 4 ∨ d = 5 ∨ d = 6 ∨ d = 7 := by omega
    clear hd
    rcases hd2 with rfl | rfl | rfl | rfl | rfl | rfl | rfl | rfl
    all_goals (
    go_wp2_with (first
      | go_skip
      | ((with_reducible show wpList _ _ _ _ _ _)
         first
         | ((with_reducible show wpList _ _ _ (⟨_, .load 30 _, _, _, _, _⟩ :: _) _ _); first | (refine wpList_getW (by rfl) _ rfl S.out _ rfl 0 _ rfl (by first | rfl | assumption) (by first | rfl | assumption) ?_) | (refine wpList_getW (by rfl) _ rfl S.out _ rfl 1 _ rfl (by first | rfl | assumption) (by first | rfl | assumption) ?_) | (refine wpList_getW (by rfl) _ rfl S.out _ rfl 2 _ rfl (by first | rfl | assumption) (by first | rfl | assumption) ?_) | (refine wpList_getW (by rfl) _ rfl S.out _ rfl 3 _ rfl (by first | rfl | assumption) (by first | rfl | assumption) ?_) | (refine wpList_getW (by rfl) _ rfl S.out _ rfl 4 _ rfl (by first | rfl | assumption) (by first | rfl | assumption) ?_) | (refine wpList_getW (by rfl) _ rfl S.out _ rfl 5 _ rfl (by first | rfl | assumption) (by first | rfl | assumption) ?_))
         | ((with_reducible show wpList _ _ _ (⟨_, .load 27 _, _, _, _, _⟩ :: _) _ _); first | (refine wpList_load_src (by rfl) _ rfl _ _ rfl (S.out.pk 3 rfl) (by first | rfl | assumption) ?_) | (refine wpList_load_dst (by rfl) _ rfl _ _ rfl (S.out.pk 3 rfl) (by first | rfl | assumption) (by first | rfl | assumption) ?_))
         | ((with_reducible show wpList _ _ _ (⟨_, .load _ _, _, _, _, _⟩ :: _) _ _); refine wpList_get_pk (by rfl) _ _ rfl S.out _ _ rfl 3 _ rfl _ rfl (by rfl) (by first | rfl | assumption) (by first | rfl | assumption) ?_)
         | ((with_reducible show wpList _ _ _ (⟨_, .store _ _ _, _, _, _, _⟩ :: _) _ _); refine wpList_putW (by rfl) _ _ rfl rfl S.out _ rfl 0 _ rfl _ rfl (by first | rfl | assumption) (by first | rfl | assumption) (by first | rfl | assumption) (by first | rfl | assumption) (by first | rfl | assumption) (by first | rfl | assumption) ?_; intro w' hS; simp only [List.set] at hS; replace S := hid hS; clear hS)
         | ((with_reducible show wpList _ _ _ (⟨_, .store _ _ _, _, _, _, _⟩ :: _) _ _); refine wpList_put_src (by rfl) _ _ rfl rfl S.out _ rfl 0 _ rfl _ _ rfl (by first | rfl | assumption) (by first | rfl | assumption) (by first | rfl | assumption) ?_; intro w' hS; simp only [List.set] at hS; replace S := hid hS; clear hS)
         | ((with_reducible show wpList _ _ _ (⟨_, .store _ _ _, _, _, _, _⟩ :: _) _ _); refine wpList_put_dst (by rfl) _ _ rfl rfl S.out _ rfl 0 _ rfl _ _ rfl (by first | rfl | assumption) (by first | rfl | assumption) (by first | rfl | assumption) ?_; intro w' hS; simp only [List.set] at hS; replace S := hid hS; clear hS)
         | ((with_reducible show wpList _ _ _ (⟨_, .store _ _ _, _, _, _, _⟩ :: _) _ _); refine wpList_put_pk (by rfl) _ _ _ rfl rfl S.out _ _ rfl 0 _ rfl _ rfl _ rfl (by rfl) (by first | rfl | assumption) (by first | rfl | assumption) ?_; intro w' hS; simp only [List.set] at hS; replace S := hid hS; clear hS)))
    all_goals go_meet)
    all_goals
      have hq := HQ.out
      have hq2 := HQ2.out
      obtain ⟨⟨t0, t1, t2, t3⟩, ⟨a0, a1⟩, ⟨a2, a3⟩, ⟨b1, b2, b3⟩, c, d1, d2⟩ := right4_parts RG.out
      obtain ⟨⟨u0, u1, u2, u3⟩, ⟨f0, f1⟩, ⟨f2, f3⟩, ⟨g1, g2, g3⟩, _, _, _⟩ := right4_parts RG2.out
    · exact DiffZ.of (sa := so3) (ca := co3) (sb := sx3) (cb := cx3) { q with TOS := q2.TOS } ⟨hq.src, hq.dst, hq.id0, hq.id1, hq.o1, hq.x1⟩ C.out.yo C.out.yx C.out.lo C.out.ln (right4_mk ⟨⟨t0, t1, t2, t3⟩, ⟨a0, a1⟩, ⟨a2, a3⟩, ⟨g1, b2, b3⟩, c, d1, d2⟩) (S.out.sub (by repeat (first | exact List.Sublist.refl _ | exact List.nil_sublist _ | apply List.Sublist.cons_cons | apply List.Sublist.cons)))
    · exact DiffZ.of (sa := so3) (ca := co3) (sb := sx3) (cb := cx3) { q with ID := q2.ID } ⟨hq.src, hq.dst, hq2.id0, hq2.id1, hq.o1, hq.x1⟩ C.out.yo C.out.yx C.out.lo C.out.ln (right4_mk ⟨⟨t0, t1, t2, u3⟩, ⟨a0, a1⟩, ⟨a2, a3⟩, ⟨b1, b2, b3⟩, c, d1, d2⟩) (S.out.sub (by repeat (first | exact List.Sublist.refl _ | exact List.nil_sublist _ | apply List.Sublist.cons_cons | apply List.Sublist.cons)))
    · exact DiffZ.of (sa := so3) (ca := co3) (sb := sx3) (cb := cx3) { q with DF := q2.DF } ⟨hq.src, hq.dst, hq.id0, hq.id1, hq.o1, hq.x1⟩ C.out.yo C.out.yx C.out.lo C.out.ln (right4_mk ⟨⟨t0, t1, t2, t3⟩, ⟨a0, a1⟩, ⟨a2, a3⟩, ⟨b1, b2, b3⟩, c, d1, d2⟩) (S.out.sub (by repeat (first | exact List.Sublist.refl _ | exact List.nil_sublist _ | apply List.Sublist.cons_cons | apply List.Sublist.cons)))
    · exact DiffZ.of (sa := so3) (ca := co3) (sb := sx3) (cb := cx3) { q with dV := q2.dV, dB := q2.dB } ⟨hq.src, hq2.dst, hq.id0, hq.id1, hq.o1, hq.x1⟩ C.out.yo C.out.yx C.out.lo C.out.ln (right4_mk ⟨⟨t0, t1, t2, t3⟩, ⟨a0, a1⟩, ⟨f2, f3⟩, ⟨b1, b2, b3⟩, c, d1, d2⟩) (S.out.sub (by repeat (first | exact List.Sublist.refl _ | exact List.nil_sublist _ | apply List.Sublist.cons_cons | apply List.Sublist.cons)))
    · exact DiffZ.of (sa := so3) (ca := co3) (sb := sx3) (cb := cx3) { q with TTL := q2.TTL } ⟨hq.src, hq.dst, hq.id0, hq.id1, hq.o1, hq.x1⟩ C.out.yo C.out.yx C.out.lo C.out.ln (right4_mk ⟨⟨t0, t1, t2, t3⟩, ⟨a0, a1⟩, ⟨a2, a3⟩, ⟨b1, b2, g3⟩, c, d1, d2⟩) (S.out.sub (by repeat (first | exact List.Sublist.refl _ | exact List.nil_sublist _ | apply List.Sublist.cons_cons | apply List.Sublist.cons)))
    · exact DiffZ.of (sa := so3) (ca := co3) (sb := sx3) (cb := cx3) { q with Proto := q2.Proto } ⟨hq.src, hq.dst, hq.id0, hq.id1, hq.o1, hq.x1⟩ C.out.yo C.out.yx C.out.lo C.out.ln (right4_mk ⟨⟨t0, t1, t2, t3⟩, ⟨a0, a1⟩, ⟨a2, a3⟩, ⟨b1, g2, b3⟩, c, d1, d2⟩) (S.out.sub (by repeat (first | exact List.Sublist.refl _ | exact List.nil_sublist _ | apply List.Sublist.cons_cons | apply List.Sublist.cons)))
    · exact DiffZ.of (sa := so3) (ca := co3) (sb := sx3) (cb := cx3) { q with sV := q2.sV, sB := q2.sB } ⟨hq2.src, hq.dst, hq.id0, hq.id1, hq.o1, hq.x1⟩ C.out.yo C.out.yx C.out.lo C.out.ln (right4_mk ⟨⟨t0, t1, t2, t3⟩, ⟨f0, f1⟩, ⟨a2, a3⟩, ⟨b1, b2, b3⟩, c, d1, d2⟩) (S.out.sub (by repeat (first | exact List.Sublist.refl _ | exact List.nil_sublist _ | apply List.Sublist.cons_cons | apply List.Sublist.cons)))
    · exact DiffZ.of (sa := so2) (ca := co2) (sb := sx2) (cb := cx2) q2 hq2 C2.out.yo C2.out.yx C2.out.lo C2.out.ln RG2.out (S.out.sub (by repeat (first | exact List.Sublist.refl _ | exact List.nil_sublist _ | apply List.Sublist.cons_cons | apply List.Sublist.cons)))
  case rest =>
  obtain ⟨z, oz, xz, mo, mx, mb, sa, ca, sb, cb, hz, hrz, hCz, hS⟩ := hcut
  have Z1 := hz.src.len
  have Z2 := hz.dst.len
  have S := hid hS
  have Cz := hid hCz
  have YB := hCz.yb
  have YA := C.out.yb
  obtain ⟨r, hr⟩ : ∃ r, decide (b4L q os xs = b4L z oz xz) = r := ⟨_, rfl⟩
  have SA := hid (fun W v u (h1 : Rb W v (b4L q os xs)) (h2 : Rb W u (b4L z oz xz)) => (show Calls Tryd.prog 16 #[v, u] W (SameP W r) from by have := sameB_any v u _ _ W h1 h2; rwa [hr] at this))
  have SQ := hid (fun W o x o' x' (h1 : Pin W (pkO q o x) os xs) (h2 : Pin W (pkO z o' x') oz xz) => (show Calls Tryd.prog 15 #[.agg (pkC (pkO q o x)), .agg (pkC (pkO z o' x'))] W (APost W (.bool r)) from by
    have := sameP_any _ _ os oz xs xz W h1.pk h2.pk h1.oR h2.oR h1.xR h2.xR
    rwa [same_bytes HQ.out hz C.out.yo C.out.yx hCz.yo hCz.yx RG.out hrz, hr] at this))
  clear hS hz hrz hCz hr HQ HQ2 RG RG2 C2 D e7
  go_wp2_with (first
    | go_skip
    | ((with_reducible show Code.wp _ (Code.region 24 _ true) _ _ _)
       refine wp_region_canon ((0, false) :: (1, false) :: (2, false) :: (3, false) :: (4, false) :: (5, false) :: (6, false) :: (7, false) :: (8, false) :: (10, false) :: (11, false) :: (9, true) :: (12, true) :: (13, false) :: (14, false) :: (15, false) :: []) (fun W => Below w'.heap.size w' W) (by kernel_rfl) (by kernel_rfl) (fun c a d v w h => by cases d <;> exact h) ?_ ?_
       · exact (Same.drew _).below _
       simp only [pick, List.getElem?_cons_succ, List.getElem?_cons_zero]
       have B0 := hid ((Same.drew w').below w'.heap.size)
       (repeat (first | (refine wpD_weak (by rfl) ?_; apply Exists.intro; refine ⟨fun wS hS => ?_, ?_⟩; (focus (go_simp; (try with_reducible rfl); done)); simp only [Act.put, List.setIfInBounds_toArray, List.set_cons_zero, List.set_cons_succ]) | (refine wpD_pass (by rfl) ?_; simp only [Act.put, List.setIfInBounds_toArray, List.set_cons_zero, List.set_cons_succ])))
       refine wpD_load_pk (by rfl) _ rfl _ _ rfl (fun _ hS => (S.out.keep hS).pk 5 rfl) L3 L4 ?_
       (repeat (first | (refine wpD_weak (by rfl) ?_; apply Exists.intro; refine ⟨fun wS hS => ?_, ?_⟩; (focus (go_simp; (try with_reducible rfl); done)); simp only [Act.put, List.setIfInBounds_toArray, List.set_cons_zero, List.set_cons_succ]) | (refine wpD_pass (by rfl) ?_; simp only [Act.put, List.setIfInBounds_toArray, List.set_cons_zero, List.set_cons_succ])))
       refine wpD_load_pk (by rfl) _ rfl _ _ rfl (fun _ hS => (S.out.keep hS).pk 2 rfl) Z1 Z2 ?_
       (repeat (first | (refine wpD_weak (by rfl) ?_; apply Exists.intro; refine ⟨fun wS hS => ?_, ?_⟩; (focus (go_simp; (try with_reducible rfl); done)); simp only [Act.put, List.setIfInBounds_toArray, List.set_cons_zero, List.set_cons_succ]) | (refine wpD_pass (by rfl) ?_; simp only [Act.put, List.setIfInBounds_toArray, List.set_cons_zero, List.set_cons_succ])))
       (refine wpD_strong (by rfl) (fun K hK => ?_); go_simp)
       refine (SA.out _ _ _ ((S.out.keep B0.out).rb 1 rfl YA) ((S.out.keep B0.out).rb 0 rfl YB)).mono ?_
       rintro en wk ⟨rfl, rfl⟩
       (refine hK _ _ (by exact B0.out) ?_; clear hK K; (try simp only [Act.put, List.setIfInBounds_toArray, List.set_cons_zero, List.set_cons_succ]))
       (repeat (first | (refine wpD_weak (by rfl) ?_; apply Exists.intro; refine ⟨fun wS hS => ?_, ?_⟩; (focus (go_simp; (try with_reducible rfl); done)); simp only [Act.put, List.setIfInBounds_toArray, List.set_cons_zero, List.set_cons_succ]) | (refine wpD_pass (by rfl) ?_; simp only [Act.put, List.setIfInBounds_toArray, List.set_cons_zero, List.set_cons_succ])))
       (refine wpD_strong (by rfl) (fun K hK => ?_); go_simp)
       refine (SQ.out _ _ _ _ _ (C.out.pin _ _ _ rfl rfl ((S.out.keep B0.out).rb 7 rfl C.out.yo) ((S.out.keep B0.out).rb 6 rfl C.out.yx)) (Cz.out.pin _ _ _ rfl rfl ((S.out.keep B0.out).rb 4 rfl Cz.out.yo) ((S.out.keep B0.out).rb 3 rfl Cz.out.yx))).mono ?_
       rintro en wk ⟨rfl, hb⟩
       replace B0 := hid (B0.out.trans (hb.mono B0.out.size)); clear hb
       (refine hK _ _ (by exact B0.out) ?_; clear hK K; (try simp only [Act.put, List.setIfInBounds_toArray, List.set_cons_zero, List.set_cons_succ]))
       (repeat (first | (refine wpD_weak (by rfl) ?_; apply Exists.intro; refine ⟨fun wS hS => ?_, ?_⟩; (focus (go_simp; (try with_reducible rfl); done)); simp only [Act.put, List.setIfInBounds_toArray, List.set_cons_zero, List.set_cons_succ]) | (refine wpD_pass (by rfl) ?_; simp only [Act.put, List.setIfInBounds_toArray, List.set_cons_zero, List.set_cons_succ])))
       refine wpD_nil ?_
       replace S := hid (S.out.keep B0.out)
       clear B0)
    | ((with_reducible show wpList _ _ _ _ _ _); (with_reducible show wpList _ _ _ (⟨_, .load 30 _, _, _, _, _⟩ :: _) _ _); first | (refine wpList_getW (by rfl) _ rfl S.out _ rfl 0 _ rfl (by first | rfl | assumption) (by first | rfl | assumption) ?_) | (refine wpList_getW (by rfl) _ rfl S.out _ rfl 1 _ rfl (by first | rfl | assumption) (by first | rfl | assumption) ?_) | (refine wpList_getW (by rfl) _ rfl S.out _ rfl 2 _ rfl (by first | rfl | assumption) (by first | rfl | assumption) ?_) | (refine wpList_getW (by rfl) _ rfl S.out _ rfl 3 _ rfl (by first | rfl | assumption) (by first | rfl | assumption) ?_) | (refine wpList_getW (by rfl) _ rfl S.out _ rfl 4 _ rfl (by first | rfl | assumption) (by first | rfl | assumption) ?_) | (refine wpList_getW (by rfl) _ rfl S.out _ rfl 5 _ rfl (by first | rfl | assumption) (by first | rfl | assumption) ?_))
    | (go_at_call 26; first
       | ((have M3 := M2); refine (Cz.out.own _ _ _ (Cz.out.pin _ _ _ rfl rfl (S.out.rb 3 rfl Cz.out.yo) (S.out.rb 2 rfl Cz.out.yx))).mono ?_; rintro en w' ⟨so4, co4, sx4, cx4, rfl, hS⟩; have P2 := hid (Cz.out.pin _ _ _ rfl rfl (hS.rb 1 rfl Cz.out.yo) (hS.rb 0 rfl Cz.out.yx)); replace S := hid (S.out.keep hS.bel); clear hS)
       | (refine (C.out.own _ _ _ (C.out.pin _ _ _ rfl rfl (S.out.rb 5 rfl C.out.yo) (S.out.rb 4 rfl C.out.yx))).mono ?_; rintro en w' ⟨so4, co4, sx4, cx4, rfl, hS⟩; have P2 := hid (C.out.pin _ _ _ rfl rfl (hS.rb 1 rfl C.out.yo) (hS.rb 0 rfl C.out.yx)); replace S := hid (S.out.keep hS.bel); clear hS))
    | (go_at_call 18; first
       | ((have M3 := M2); refine (Cz.out.bld _ _ _ P2.out (TB.out.below S.out.bel)).mono ?_; clear P2; rintro en w' ⟨cc, cd, rfl, hS⟩; replace hS := S.out.call hS; simp only [List.cons_append, List.nil_append] at hS; replace S := hid hS; clear hS)
       | (refine (C.out.bld _ _ _ P2.out (TB.out.below S.out.bel)).mono ?_; clear P2; have M2 := True.intro; rintro en w' ⟨ce, cf, rfl, hS⟩; replace hS := S.out.call hS; simp only [List.cons_append, List.nil_append] at hS; replace S := hid hS; clear hS)))
  go_ret
  exact P.out _ _ rfl S.out.nil
end Go.Proofs.YtaecfcaeopmiaaaDoor
