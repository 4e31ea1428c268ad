/-
  mosaicref08: address, add, part, most, checksum, get, own.
-/
import Derived.Test.YtpggbbjhbklamaaAdr4
import Derived.Test.YtpggbbjhbklamaaIcA
namespace Go.Proofs.Ytpggbbjhbklamaa
open Go.RowKit

theorem raddr_any (V : Int) (bs : List Int) (v : Int) (w : World) (h : IsA V bs) : Calls Try.prog 28 #[.agg (addrC V bs), .int .i64 v] w (APost w (.bool ((V == v) && validA V bs))) := by
  have L1 := h.len
  have A4 := hid (fun W => addr4_any V bs W h)
  have P := hid (fun en w' c (h1 : en = .returned (.bool c)) (hc : c = ((V == v) && validA V bs)) (h2 : Sp w w' []) => show APost w (.bool ((V == v) && validA V bs)) en w' from ⟨by rw [h1, hc], h2.bel⟩)
  have S : Hid (Sp w (w.alloc (.cells (addrC V bs) 24)) [.blk w.heap.size (addrC V bs) 24]) := hid (Sp.in1 ..)
  have Z := hid (z4_valid V bs)
  clear h
  by_cases h4 : v = 4
  · subst h4
    have E := hid (show z4 V bs = ((V == 4) && validA V bs) by rw [Z.out]; rfl)
    clear Z
    generalize z4 V bs = z at *
    go_enter Try.func28, Try.ntmps28
    go_upto_region 1 with fail
    generalize w.alloc (.cells (addrC V bs) 24) = w' at *
    generalize w.heap.size = b at *
    go_wp2_with (first
      | go_skip
      | ((with_reducible show wpList _ _ _ _ _ _); ((with_reducible show wpList _ _ _ (⟨_, .load 24 _, _, _, _, _⟩ :: _) _ _); first | (refine wpList_getS (by rfl) _ _ rfl S.out _ rfl 0 _ _ rfl _ (by rfl) Try.underlying24 (by rw [addr_info]; exact congrArg some (addr_cells (by first | rfl | assumption)).symm) ?_) | (refine wpList_getS (by rfl) _ _ rfl S.out _ rfl 1 _ _ rfl _ (by rfl) Try.underlying24 (by rw [addr_info]; exact congrArg some (addr_cells (by first | rfl | assumption)).symm) ?_) | (refine wpList_getS (by rfl) _ _ rfl S.out _ rfl 2 _ _ rfl _ (by rfl) Try.underlying24 (by rw [addr_info]; exact congrArg some (addr_cells (by first | rfl | assumption)).symm) ?_) | (refine wpList_getS (by rfl) _ _ rfl S.out _ rfl 3 _ _ rfl _ (by rfl) Try.underlying24 (by rw [addr_info]; exact congrArg some (addr_cells (by first | rfl | assumption)).symm) ?_) | (refine wpList_getS (by rfl) _ _ rfl S.out _ rfl 4 _ _ rfl _ (by rfl) Try.underlying24 (by rw [addr_info]; exact congrArg some (addr_cells (by first | rfl | assumption)).symm) ?_) | (refine wpList_getS (by rfl) _ _ rfl S.out _ rfl 5 _ _ rfl _ (by rfl) Try.underlying24 (by rw [addr_info]; exact congrArg some (addr_cells (by first | rfl | assumption)).symm) ?_)))
      | (go_at_call 46; refine (A4.out _).mono ?_; rintro en w' ⟨rfl, hb⟩; replace S := hid (S.out.keep hb); clear hb))
    go_ret
    exact P.out _ _ _ rfl E.out S.out.nil
  · have d4 : (v == 4) = false := by simp [h4]
    by_cases h6 : v = 6
    · subst h6
      have E := hid (show (V == 6) = ((V == 6) && validA V bs) by
        by_cases hV : V = 6
        · subst hV; rfl
        · simp [hV])
      clear Z A4 d4 h4
      go_enter Try.func28, Try.ntmps28
      go_upto_region 1 with fail
      generalize w.alloc (.cells (addrC V bs) 24) = w' at *
      generalize w.heap.size = b at *
      go_wp2_with (first
        | go_skip
        | ((with_reducible show wpList _ _ _ _ _ _); ((with_reducible show wpList _ _ _ (⟨_, .load _ _, _, _, _, _⟩ :: _) _ _); first | (refine wpList_getC (by rfl) _ _ rfl S.out _ _ rfl 0 _ _ rfl _ (addrC_0 _ _) (by rfl) ?_) | (refine wpList_getC (by rfl) _ _ rfl S.out _ _ rfl 1 _ _ rfl _ (addrC_0 _ _) (by rfl) ?_) | (refine wpList_getC (by rfl) _ _ rfl S.out _ _ rfl 2 _ _ rfl _ (addrC_0 _ _) (by rfl) ?_) | (refine wpList_getC (by rfl) _ _ rfl S.out _ _ rfl 3 _ _ rfl _ (addrC_0 _ _) (by rfl) ?_) | (refine wpList_getC (by rfl) _ _ rfl S.out _ _ rfl 4 _ _ rfl _ (addrC_0 _ _) (by rfl) ?_) | (refine wpList_getC (by rfl) _ _ rfl S.out _ _ rfl 5 _ _ rfl _ (addrC_0 _ _) (by rfl) ?_))))
      go_ret
      exact P.out _ _ _ rfl E.out S.out.nil
    · have d6 : (v == 6) = false := by simp [h6]
      have E := hid (show false = ((V == v) && validA V bs) by
        unfold validA
        by_cases hV : V = v
        · subst hV; simp [h4, h6]
        · simp [hV])
      clear Z A4 h4 h6
      go_enter Try.func28, Try.ntmps28
      go_upto_region 1 with fail
      generalize w.alloc (.cells (addrC V bs) 24) = w' at *
      generalize w.heap.size = b at *
      go_wp2_with (first
        | go_skip
        | ((with_reducible show wpList _ _ _ _ _ _); ((with_reducible show wpList _ _ _ (⟨_, .load _ _, _, _, _, _⟩ :: _) _ _); first | (refine wpList_getC (by rfl) _ _ rfl S.out _ _ rfl 0 _ _ rfl _ (addrC_0 _ _) (by rfl) ?_) | (refine wpList_getC (by rfl) _ _ rfl S.out _ _ rfl 1 _ _ rfl _ (addrC_0 _ _) (by rfl) ?_) | (refine wpList_getC (by rfl) _ _ rfl S.out _ _ rfl 2 _ _ rfl _ (addrC_0 _ _) (by rfl) ?_) | (refine wpList_getC (by rfl) _ _ rfl S.out _ _ rfl 3 _ _ rfl _ (addrC_0 _ _) (by rfl) ?_) | (refine wpList_getC (by rfl) _ _ rfl S.out _ _ rfl 4 _ _ rfl _ (addrC_0 _ _) (by rfl) ?_) | (refine wpList_getC (by rfl) _ _ rfl S.out _ _ rfl 5 _ _ rfl _ (addrC_0 _ _) (by rfl) ?_))))
      go_ret
      exact P.out _ _ _ rfl E.out S.out.nil
theorem radd_any (n x : Int) (w : World) (h0 : 0 ≤ n ∧ n ≤ 65535) (h1 : 0 ≤ x ∧ x ≤ 65535) : Calls Try.prog 47 #[.int .i64 n, .int .i64 x] w fun en w' => en = .returned (.int .i64 (foldL (n + x))) ∧ w = w' := by
  by_cases h : 65535 < n + x
  · have e := hid (show n + x - 65535 = foldL (n + x) by unfold foldL; rw [if_neg (by omega)]; omega)
    generalize foldL (n + x) = f at *
    go_enter Try.func47, Try.ntmps47
    go_wp2
    go_ret
    exact ⟨by rw [← e.out]; rfl, rfl⟩
  · have e := hid (show n + x = foldL (n + x) by rw [foldL_small (by omega) (by omega)])
    generalize foldL (n + x) = f at *
    go_enter Try.func47, Try.ntmps47
    go_wp2
    go_ret
    exact ⟨by rw [← e.out]; rfl, rfl⟩
theorem rmost_any (V : Int) (w : World) : Calls Try.prog 29 #[.int .i64 V] w fun en w' => en = .returned (.int .i64 (imost V)) ∧ w = w' := by
  by_cases h : V = 4
  · subst h
    go_enter Try.func29, Try.ntmps29
    go_wp2
    go_ret
    exact ⟨rfl, rfl⟩
  · have e := hid (show imost V = 65535 by unfold imost; rw [if_neg h])
    have hd : (V == 4) = false := by simp [h]
    clear h
    go_enter Try.func29, Try.ntmps29
    go_wp2
    go_ret
    exact ⟨by rw [e.out]; rfl, rfl⟩
theorem wsum_take8 {l : List Int} {k : Nat} (h : k < l.length) : wsum (l.take (k + 1)) = wsum (l.take k) + if k % 2 = 0 then 256 * gt l k else gt l k := by
  rw [take_snoc h, wsum_snoc, show (l.take k).length = k by simp; omega]
def RP8Rel (w0 : World) (l : List Int) (n t : Value) (wr : World) : Prop := ∃ k : Nat, k ≤ l.length ∧ t = .int .i64 k ∧ n = .int .i64 (foldL (wsum (l.take k))) ∧ w0 = wr
set_option maxHeartbeats 1600000 in
theorem rpart_any (bv : Value) (l : List Int) (w : World) (h : Rb w bv l) (hl : l.length ≤ 65535) : Calls Try.prog 48 #[bv] w fun en w' => en = .returned (.int .i64 (partL l)) ∧ w = w' := by
  have HB := hid h
  obtain ⟨a, cap, rfl, hc, hm, hz⟩ := h.open
  unfold maxLen at hm
  have HZ := hid hz
  clear h hz
  go_enter Try.func48, Try.ntmps48
  go_wp2_with fail
  go_loopw [3, 4] (fun n t wr => RP8Rel w l n t wr) (fun _ t _ => l.length - (intOf t).toNat)
  case atStart => exact ⟨0, Nat.zero_le _, rfl, by simp [wsum, foldL], rfl⟩
  case round =>
    obtain ⟨k, hk, rfl, rfl, rfl⟩ := hrel
    have hw0 := (wsum_bd (HB.out.byt.take k)).1
    have hf := foldL_bd hw0
    by_cases hlt : k < l.length
    · rcases HZ.out with h0 | ⟨b, off, rfl, hcell⟩
      · omega
      have hck := hcell k hlt
      have hx := HB.out.byt.bd k
      have hwt := hid (wsum_take8 hlt)
      generalize gt l k = x at *
      generalize wsum (l.take k) = n at *
      clear hcell
      by_cases hp : k % 2 = 0
      · have hd : ((k : Int) % 2 == 0) = true := by simp; omega
        have hwt := hid (show foldL (foldL n + 256 * x) = foldL (wsum (l.take (k + 1))) by rw [hwt.out, if_pos hp, foldL_add hw0 (by omega)])
        generalize foldL n = f at *
        have RA := hid (fun W => radd_any f (256 * x) W hf (by omega))
        rw [hwt.out] at RA
        go_wp2_with fail
        refine (RA.out _).mono ?_
        rintro en w' ⟨rfl, rfl⟩
        go_wp2_with fail
        go_roundw
        case rel => exact ⟨k + 1, by omega, by go_num, rfl, rfl⟩
        case measure => simp [intOf]; omega
      · have hd : ((k : Int) % 2 == 0) = false := by simp; omega
        have hwt := hid (show foldL (foldL n + x) = foldL (wsum (l.take (k + 1))) by rw [hwt.out, if_neg hp, foldL_add hw0 (by omega)])
        generalize foldL n = f at *
        have RA := hid (fun W => radd_any f x W hf (by omega))
        rw [hwt.out] at RA
        go_wp2_with fail
        refine (RA.out _).mono ?_
        rintro en w' ⟨rfl, rfl⟩
        go_wp2_with fail
        go_roundw
        case rel => exact ⟨k + 1, by omega, by go_num, rfl, rfl⟩
        case measure => simp [intOf]; omega
    · have hkl : k = l.length := by omega
      subst hkl
      have e := hid (show foldL (wsum (l.take l.length)) = partL l by rw [List.take_length]; rfl)
      generalize foldL (wsum (l.take l.length)) = n at *
      go_wp2_with fail
      go_ret
      exact ⟨by rw [← e.out]; rfl, rfl⟩
/-! ### the checksum of a message -/
theorem gt_zero23 {l : List Int} {k : Nat} (hk : k < l.length) : gt (zero23 l) k = if k = 2 ∨ k = 3 then 0 else gt l k := by
  unfold zero23
  by_cases h3 : k = 3
  · subst h3
    rw [gt_set_self (by simpa using hk)]
    rfl
  · rw [gt_set_ne (fun e => h3 e.symm)]
    by_cases h2 : k = 2
    · subst h2
      rw [gt_set_self hk]
      rfl
    · rw [gt_set_ne (fun e => h2 e.symm), if_neg (by omega)]
theorem rsum_eq {bs bs2 z : List Int} (h : Byt bs) (h2 : Byt bs2) (hl : bs.length = 16) (hl2 : bs2.length = 16) (hz : Byt z) (hn : z.length ≤ 65535) :
    foldL (foldL (foldL (foldL (foldL (partL z + partL bs) + partL bs2) + 0) + z.length) + 58) = foldL (partL (headL 6 bs bs2 58 z.length) + partL z) := by
  have w0 := (wsum_bd hz).1
  have w1 := (wsum_bd h).1
  have w2 := (wsum_bd h2).1
  have := pseu_eq (V := 6) h h2 hl hl2 (proto := 58) (n := z.length) (by omega) (by omega)
  rw [← this]
  unfold kA
  rw [if_neg (by decide), List.take_of_length_le (by omega), List.take_of_length_le (by omega)]
  unfold partL
  have k1 := (foldL_bd (n := wsum bs) w1).1
  have k2 := (foldL_bd (n := wsum bs2) w2).1
  have k0 := (foldL_bd (n := wsum z) w0).1
  rw [foldL_add w0 k1, foldL_add' w0 w1, foldL_add (a := wsum z + wsum bs) (by omega) k2, foldL_add' (a := wsum z + wsum bs) (by omega) w2,
    foldL_add (a := wsum z + wsum bs + wsum bs2) (b := 0) (by omega) (by omega), foldL_add (a := wsum z + wsum bs + wsum bs2 + 0) (by omega) (by omega), foldL_add (a := wsum z + wsum bs + wsum bs2 + 0 + z.length) (by omega) (by omega)]
  rw [foldL_add w1 k2, foldL_add' w1 w2, foldL_add (a := wsum bs + wsum bs2) (b := 58) (by omega) (by omega), foldL_add (a := wsum bs + wsum bs2 + 58) (b := z.length) (by omega) (by omega), foldL_add (a := wsum bs + wsum bs2 + 58 + z.length) (by omega) k0, foldL_add' (a := wsum bs + wsum bs2 + 58 + z.length) (by omega) w0]
  congr 1
  omega
def RS8Rel (w0 : World) (z : List Int) (n t : Value) (wr : World) : Prop := ∃ k : Nat, k ≤ z.length ∧ t = .int .i64 k ∧ n = .int .i64 (foldL (wsum (z.take k))) ∧ w0 = wr
set_option maxHeartbeats 3200000 in
theorem rsum_any (V : Int) (bs bs2 : List Int) (bv : Value) (l : List Int) (w : World) (h : IsA V bs) (h2 : IsA V bs2) (hb : Rb w bv l) (hl : l.length ≤ 65535) :
    Calls Try.prog 30 #[.agg (addrC V bs), .agg (addrC V bs2), .int .i64 V, bv] w (APost w (.int .i64 (chkL V bs bs2 (zero23 l)))) := by
  have L1 := h.len
  have L2 := h2.len
  have S : Hid (Sp w ((w.alloc (.cells (addrC V bs) 24)).alloc (.cells (addrC V bs2) 24)) [.blk (w.heap.size + 1) (addrC V bs2) 24, .blk w.heap.size (addrC V bs) 24]) := hid (Sp.in2 ..)
  have HB := hid (hb.below S.out.bel)
  obtain ⟨a, cap, rfl, hc, hm, hz⟩ := HB.out.open
  unfold maxLen at hm
  have HZ := hid hz
  obtain ⟨cv, hcv⟩ : ∃ cv, cv = chkL V bs bs2 (zero23 l) := ⟨_, rfl⟩
  rw [← hcv]
  have P := hid (fun en w' c (h1 : en = .returned (.int .i64 c)) (hcc : c = 65535 - (if V = 6 then foldL (partL (headL V bs bs2 58 l.length) + partL (zero23 l)) else partL (zero23 l))) (h2 : Sp w w' []) => show APost w (.int .i64 cv) en w' from ⟨by rw [h1, hcc, hcv]; unfold chkL; rw [zero23_len], h2.bel⟩)
  have ZL := zero23_len l
  have YZ := zero23_byt hb.byt
  have GZ := hid (fun k (hk : k < l.length) => gt_zero23 hk)
  have RQ := hid (rsum_eq h.byt h2.byt L1 L2 YZ (by rw [ZL]; exact hl))
  have IA := hid h
  have IB := hid h2
  clear hcv h h2 hb hz
  generalize zero23 l = z at *
  go_enter Try.func30, Try.ntmps30
  go_upto_region 1 with fail
  generalize (w.alloc (.cells (addrC V bs) 24)).alloc (.cells (addrC V bs2) 24) = w1 at *
  go_wp2_with fail
  go_loopw [9, 10] (fun n t wr => RS8Rel w1 z n t wr) (fun _ t _ => l.length - (intOf t).toNat)
  case atStart => exact ⟨0, Nat.zero_le _, rfl, by simp [wsum, foldL], rfl⟩
  case round =>
    obtain ⟨k, hk, rfl, rfl, rfl⟩ := hrel
    have hw0 := (wsum_bd (YZ.take k)).1
    have hf := foldL_bd hw0
    by_cases hlt : k < l.length
    · rcases HZ.out with h0 | ⟨b, off, rfl, hcell⟩
      · omega
      have hck := hcell k hlt
      have hx := HB.out.byt.bd k
      have hwt := hid (wsum_take8 (l := z) (k := k) (by omega))
      have gz := hid (GZ.out k hlt)
      generalize gt l k = x at *
      generalize gt z k = y at *
      generalize wsum (z.take k) = n at *
      clear hcell
      by_cases h23 : k = 2 ∨ k = 3
      · have hy : y = 0 := by rw [gz.out, if_pos h23]
        have hwt := hid (show foldL n = foldL (wsum (z.take (k + 1))) by rw [hwt.out, hy]; split <;> simp)
        generalize foldL n = f at *
        rcases h23 with rfl | rfl
        · go_wp2_with fail
          go_roundw
          case rel => exact ⟨3, by omega, by go_num, by rw [← hwt.out], rfl⟩
          case measure => simp [intOf]; omega
        · go_wp2_with fail
          go_roundw
          case rel => exact ⟨4, by omega, by go_num, by rw [← hwt.out], rfl⟩
          case measure => simp [intOf]; omega
      · have hy : y = x := by rw [gz.out, if_neg h23]
        subst hy
        have h2' : ((k : Int) != 2) = true := by simp; omega
        have h3' : ((k : Int) != 3) = true := by simp; omega
        by_cases hp : k % 2 = 0
        · have hd : ((k : Int) % 2 == 0) = true := by simp; omega
          have hwt := hid (show foldL (foldL n + 256 * y) = foldL (wsum (z.take (k + 1))) by rw [hwt.out, if_pos hp, foldL_add hw0 (by omega)])
          generalize foldL n = f at *
          have RA := hid (fun W => radd_any f (256 * y) W hf (by omega))
          rw [hwt.out] at RA
          go_wp2_with fail
          refine (RA.out _).mono ?_
          rintro en w' ⟨rfl, rfl⟩
          go_wp2_with fail
          go_roundw
          case rel => exact ⟨k + 1, by omega, by go_num, rfl, rfl⟩
          case measure => simp [intOf]; omega
        · have hd : ((k : Int) % 2 == 0) = false := by simp; omega
          have hwt := hid (show foldL (foldL n + y) = foldL (wsum (z.take (k + 1))) by rw [hwt.out, if_neg hp, foldL_add hw0 (by omega)])
          generalize foldL n = f at *
          have RA := hid (fun W => radd_any f y W hf (by omega))
          rw [hwt.out] at RA
          go_wp2_with fail
          refine (RA.out _).mono ?_
          rintro en w' ⟨rfl, rfl⟩
          go_wp2_with fail
          go_roundw
          case rel => exact ⟨k + 1, by omega, by go_num, rfl, rfl⟩
          case measure => simp [intOf]; omega
    · have hkl : k = z.length := by omega
      subst hkl
      have e := hid (show foldL (wsum (z.take z.length)) = partL z by rw [List.take_length]; rfl)
      rw [e.out] at hf ⊢
      generalize partL z = n at *
      clear e hw0
      by_cases h6 : V = 6
      · subst h6
        have R1 := hid (addr_rb (S.out.heap 1 rfl) IA.out (n := 16) (by omega))
        have R2 := hid (addr_rb (S.out.heap 0 rfl) IB.out (n := 16) (by omega))
        rw [List.take_of_length_le (by omega)] at R1 R2
        have b1 := partL_bd IA.out.byt
        have b2 := partL_bd IB.out.byt
        have PA := hid (fun W v (hv : Rb W v bs) => rpart_any v bs W hv (by omega))
        have PB := hid (fun W v (hv : Rb W v bs2) => rpart_any v bs2 W hv (by omega))
        rw [ZL] at RQ
        generalize partL bs = p1 at *
        generalize partL bs2 = p2 at *
        have A1 := hid (fun W => radd_any n p1 W hf b1)
        have c1 := foldL_bd (n := n + p1) (by omega)
        generalize foldL (n + p1) = f1 at *
        have A2 := hid (fun W => radd_any f1 p2 W c1 b2)
        have c2 := foldL_bd (n := f1 + p2) (by omega)
        generalize foldL (f1 + p2) = f2 at *
        have A3 := hid (fun W x (hx : x = 0) => (show Calls _ _ #[.int .i64 f2, .int .i64 x] W _ from by subst hx; exact radd_any f2 0 W c2 (by omega)))
        have c3 := foldL_bd (n := f2 + 0) (by omega)
        generalize foldL (f2 + 0) = f3 at *
        have A4 := hid (fun W x (hx : x = (l.length : Int)) => (show Calls _ _ #[.int .i64 f3, .int .i64 x] W _ from by subst hx; exact radd_any f3 l.length W c3 (by omega)))
        have c4 := foldL_bd (n := f3 + l.length) (by omega)
        generalize foldL (f3 + l.length) = f4 at *
        have A5 := hid (fun W => radd_any f4 58 W c4 (by omega))
        have c5 := foldL_bd (n := f4 + 58) (by omega)
        generalize foldL (f4 + 58) = f5 at *
        have d1 : (l.length : Int) / 65536 = 0 := by omega
        have d2 : (l.length : Int) % 65536 = l.length := by omega
        go_wp2_with fail
        refine (PA.out _ _ R1.out).mono ?_
        rintro en w' ⟨rfl, rfl⟩
        go_wp2_with fail
        refine (A1.out _).mono ?_
        rintro en w' ⟨rfl, rfl⟩
        go_wp2_with fail
        refine (PB.out _ _ R2.out).mono ?_
        rintro en w' ⟨rfl, rfl⟩
        go_wp2_with fail
        refine (A2.out _).mono ?_
        rintro en w' ⟨rfl, rfl⟩
        go_wp2_with fail
        refine (A3.out _ _ (by first | rfl | omega)).mono ?_
        rintro en w' ⟨rfl, rfl⟩
        go_wp2_with fail
        refine (A4.out _ _ (by first | rfl | omega)).mono ?_
        rintro en w' ⟨rfl, rfl⟩
        go_wp2_with fail
        refine (A5.out _).mono ?_
        rintro en w' ⟨rfl, rfl⟩
        go_wp2_with fail
        go_ret
        refine P.out _ _ _ rfl ?_ S.out.nil
        rw [if_pos True.intro, ← RQ.out]
      · have d6 : (V == 6) = false := by simp [h6]
        have e6 := hid h6
        clear h6
        go_wp2_with fail
        go_ret
        refine P.out _ _ _ rfl ?_ S.out.nil
        rw [if_neg e6.out]
end Go.Proofs.Ytpggbbjhbklamaa
