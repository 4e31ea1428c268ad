/-
  mosaiclaw05.mended: a packet made right.
-/
import Derived.Test.YtaecfcaeopmiaaaDoorLaw5B
import Derived.Test.YtaecfcaeopmiaaaDoorFill
import Derived.Test.YtaecfcaeopmiaaaDoorBits
namespace Go.Proofs.YtaecfcaeopmiaaaDoor
open Go.RowKit

theorem i64_nat (n : Int) : (BitVec.ofInt 64 n).toNat = (n % 18446744073709551616).toNat := by rw [BitVec.toNat_ofInt]; rfl
theorem i64_andlow (n : Int) (m : Nat) (c : Int) (hc : (BitVec.ofInt 64 c).toNat = 2 ^ m - 1) (hm : m ≤ 62) : bits .and .i64 n c = n % ((2 ^ m : Nat) : Int) := by
  have hp : 2 ^ m ≤ 2 ^ 62 := Nat.pow_le_pow_right (by decide) hm
  have hp0 : 0 < 2 ^ m := Nat.two_pow_pos m
  show IntKind.i64.wrap ((BitVec.ofInt 64 n &&& BitVec.ofInt 64 c).toNat : Nat) = _
  rw [BitVec.toNat_and, hc, Nat.and_two_pow_sub_one_eq_mod, i64_nat]
  have hlt : (n % 18446744073709551616).toNat % 2 ^ m < 2 ^ m := Nat.mod_lt _ hp0
  rw [IntWalk.i64_in _ (by omega), Int.natCast_emod, Int.toNat_of_nonneg (by omega)]
  have hd : ((2 ^ m : Nat) : Int) ∣ 18446744073709551616 := by
    have : (2 ^ m : Nat) ∣ 2 ^ 64 := Nat.pow_dvd_pow 2 (by omega)
    exact Int.natCast_dvd_natCast.2 this
  exact Int.emod_emod_of_dvd n hd
theorem i64_and255 (n : Int) : bits .and .i64 n 255 = n % 256 := i64_andlow n 8 255 (by decide) (by decide)
theorem nat_and_off (x : Nat) : x &&& 65528 = x % 65536 / 8 * 8 := by
  rw [show (65528 : Nat) = (2 ^ 13 - 1) * 2 ^ 3 by decide, show (65536 : Nat) = 2 ^ 16 by decide, show x % 2 ^ 16 / 8 * 8 = x % 2 ^ 16 / 2 ^ 3 * 2 ^ 3 by rfl]
  refine Nat.eq_of_testBit_eq fun j => ?_
  rw [Nat.testBit_and, Nat.testBit_mul_two_pow, Nat.testBit_mul_two_pow, Nat.testBit_two_pow_sub_one, Nat.testBit_div_two_pow, Nat.testBit_mod_two_pow]
  by_cases h : 3 ≤ j
  · rw [show j - 3 + 3 = j by omega]
    by_cases h2 : j < 16
    · simp [h, h2, show j - 3 < 13 by omega]
    · simp [h, h2, show ¬ j - 3 < 13 by omega]
  · simp [h]
theorem i64_and_off (n : Int) : bits .and .i64 n 65528 = n % 65536 / 8 * 8 := by
  show IntKind.i64.wrap ((BitVec.ofInt 64 n &&& BitVec.ofInt 64 65528).toNat : Nat) = _
  rw [BitVec.toNat_and, i64_nat, i64_nat, show ((65528 : Int) % 18446744073709551616).toNat = 65528 by decide, nat_and_off]
  rw [IntWalk.i64_in _ (by omega)]
  omega
theorem u32_and65535 {n : Int} (h0 : 0 ≤ n) (h1 : n < 4294967296) : bits .and .u32 n 65535 = n % 65536 := u32_and_low h0 h1 16 (by decide)
theorem parse_ones (k : Nat) : parseL (List.replicate k 1) = some (List.replicate k (1, [])) := by
  induction k with
  | zero => exact parse_nil
  | succ k ih => rw [List.replicate_succ, parse_cons, if_neg (by decide), if_pos rfl, ih]; rfl
theorem valid_ones {k : Nat} (h : k ≤ 40) (h4 : k % 4 = 0) : validB (List.replicate k 1) = true := by
  unfold validB
  rw [parse_ones]
  simp [h, h4]
theorem ones_byt (k : Nat) : Byt (List.replicate k (1 : Int)) := by intro y hy; rw [List.eq_of_mem_replicate hy]; decide
def MendPost (w : World) (en : Ending) (w' : World) : Prop :=
  ∃ q no xs nx so co sx cx, en = .returned (.agg (pkC (pkO q (.slice so no co) (.slice sx nx cx)))) ∧ Sp w w' [.row (.slice sx nx cx) 5 1 nx (bts xs), .row (.slice so no co) 5 1 no (bts (List.replicate no 1))] ∧
    IsPk q ∧ Byt xs ∧ xs.length = nx ∧ right4 q (List.replicate no 1) xs.length = true
theorem Rb.frontV {w : World} {v : Value} {a : Option Go.Addr} {n cap : Nat} {l : List Int} (h : Rb w v l) (hv : v = .slice a n cap) (j : Nat) (hj : j ≤ l.length) : Rb w (.slice a j cap) (l.take j) := by
  subst hv
  exact h.front j hj
theorem mend_end {w w' : World} {L : List Res} (P : Pk) {no nx : Nat} {xs : List Int} {so co sx cx} (e1 : P.ov = .slice so no co) (e2 : P.xv = .slice sx nx cx) (S : Sp w w' L) (hL : [Res.row (.slice sx nx cx) 5 1 nx (bts xs), .row (.slice so no co) 5 1 no (bts (List.replicate no 1))].Sublist L)
    (hs : IsA P.sV P.sB) (hd : IsA P.dV P.dB) (hi : 0 ≤ P.ID ∧ P.ID ≤ 65535) (yx : Byt xs) (hx : xs.length = nx) (r1 : P.V = 4 ∧ P.Flow = 0 ∧ P.Frag = false) (r2 : P.sV = 4 ∧ zerosB (P.sB.drop 4) = true) (r3 : P.dV = 4 ∧ zerosB (P.dB.drop 4) = true)
    (r4 : (0 ≤ P.TOS ∧ P.TOS ≤ 255) ∧ (0 ≤ P.Proto ∧ P.Proto ≤ 255) ∧ 0 ≤ P.TTL ∧ P.TTL ≤ 255) (r5 : (0 ≤ P.Off ∧ P.Off ≤ 65528 ∧ P.Off % 8 = 0 ∧ P.Off + nx ≤ 65535) ∧ (P.More = true → nx ≠ 0 ∧ nx % 8 = 0) ∧ (P.Off = 0 ∨ 0 < nx)) (r6 : no ≤ 40 ∧ no % 4 = 0) (r7 : 20 + no + nx ≤ 65535) :
    MendPost w (.returned (.agg (pkC P))) w' := by
  refine ⟨P, no, xs, nx, so, co, sx, cx, ?_, S.sub hL, ⟨hs, hd, hi.1, Int.le_trans hi.2 (by decide), by rw [e1]; rfl, by rw [e2]; rfl⟩, yx, hx, ?_⟩
  · rw [← e1, ← e2]; rfl
  · unfold right4 four4 placed4
    simp only [Bool.and_eq_true, decide_eq_true_eq, List.length_replicate]
    subst hx
    exact ⟨⟨⟨⟨⟨⟨⟨r1.1, r1.2.1, r1.2.2, hi.2⟩, r2⟩, r3⟩, r4⟩, r5⟩, valid_ones r6.1 r6.2⟩, r7⟩
set_option maxHeartbeats 2000000 in
set_option maxRecDepth 20000 in
theorem mend_any (p : Pk) (lo ld : List Int) (w : World) (h : Pin w p lo ld) (hl : lo.length ≤ 140737488355328 ∧ ld.length ≤ 140737488355328) : Calls Tryd.prog 25 #[.agg (pkC p)] w (MendPost w) := by
  have PI := hid h
  have OX := hid (fun W v xs (hv : Rb W v xs) (hx : xs.length ≤ 140737488355328) => ownB_any v xs W hv hx)
  have L1 := h.pk.src.len
  have L2 := h.pk.dst.len
  have IS := hid h.pk.src
  have ID' := hid h.pk.dst
  have ID0 := h.pk.id0
  have ID1 := h.pk.id1
  have YX := h.xR.byt
  obtain ⟨oa, oc, eo, hoc, hom, _⟩ := h.oR.open
  obtain ⟨xa, xc, ex, hxc, hxm, _⟩ := h.xR.open
  unfold maxLen at hom hxm
  replace eo := hid eo
  replace ex := hid ex
  have a1 := i64_and255 p.TOS
  have a2 := i64_and255 p.Proto
  have a3 := i64_and255 p.TTL
  have a4 := u32_and65535 ID0 (by omega)
  have a5 := i64_and_off p.Off
  have S : Hid (Sp w ((w.alloc (.cells (pkC p) 30)).alloc (.cells #[.int .i64 0, .int .i64 0, .int .i64 0, .int .i64 0, .int .u8 0, .int .u8 0, .int .u8 0, .int .u8 0, .int .u8 0, .int .u8 0, .int .u8 0, .int .u8 0, .int .u8 0, .int .u8 0, .int .u8 0, .int .u8 0, .int .u8 0, .int .u8 0, .int .u8 0, .int .u8 0, .int .i64 0, .int .u8 0, .int .u8 0, .int .u8 0, .int .u8 0, .int .u8 0, .int .u8 0, .int .u8 0, .int .u8 0, .int .u8 0, .int .u8 0, .int .u8 0, .int .u8 0, .int .u8 0, .int .u8 0, .int .u8 0, .int .u8 0, .int .i64 0, .int .i64 0, .int .u32 0, .bool false, .bool false, .bool false, .int .i64 0, .slice none 0 0, .slice none 0 0] 30)) [.blk (w.heap.size + 1) (pkC pk0) 30, .blk w.heap.size (pkC p) 30]) := hid (Sp.in2 ..)
  clear h
  go_enter Tryd.func25, Tryd.ntmps25
  go_upto_region 1 with fail
  generalize (w.alloc _).alloc _ = w' at *
  generalize w.heap.size = b at *
  go_upto_region 5 with (first
    | go_skip
    | (((with_reducible show wpList _ _ _ (_ :: _) _ (World.alloc _ (.cells _ 30))); refine wpList_world fun w' hw2 => ?_; replace S := hid (show Sp _ _ (.blk _ (pkC pk0) 30 :: _) from S.out.alloc hw2); clear hw2))
    | ((with_reducible show wpList _ _ _ _ _ _)
       first
       | ((with_reducible show wpList _ _ _ (⟨_, .load _ _, _, _, _, _⟩ :: _) _ _); refine wpList_get_pk (by rfl) _ _ rfl S.out _ _ rfl 2 _ rfl _ rfl (by rfl) (by first | rfl | assumption) (by first | rfl | assumption) ?_)
       | ((with_reducible show wpList _ _ _ (⟨_, .load _ _, _, _, _, _⟩ :: _) _ _); refine wpList_get_pk (by rfl) _ _ rfl S.out _ _ rfl 1 _ rfl _ rfl (by rfl) (by first | rfl | assumption) (by first | rfl | assumption) ?_)
       | ((with_reducible show wpList _ _ _ (⟨_, .store _ _ _, _, _, _, _⟩ :: _) _ _); refine wpList_put_pk (by rfl) _ _ _ rfl rfl S.out _ _ rfl 0 _ rfl _ rfl _ rfl (by rfl) (by first | rfl | assumption) (by first | rfl | assumption) ?_; intro w' hS; simp only [List.set] at hS; replace S := hid hS; clear hS)
       | ((with_reducible show wpList _ _ _ (⟨_, .store _ _ _, _, _, _, _⟩ :: _) _ _); refine wpList_putW (by rfl) _ _ rfl rfl S.out _ rfl 0 _ rfl { pk0 with V := 4, TOS := p.TOS % 256, Proto := p.Proto % 256, TTL := p.TTL % 256, ID := p.ID % 65536, DF := p.DF, More := p.More, Off := p.Off % 65536 / 8 * 8 } rfl (by first | rfl | assumption) (by first | rfl | assumption) (by first | rfl | assumption) (by first | rfl | assumption) rfl rfl ?_; intro w' hS; simp only [List.set] at hS; replace S := hid hS; clear hS)))
  clear a1 a2 a3 a4 a5
  have bT : 0 ≤ p.TOS % 256 ∧ p.TOS % 256 ≤ 255 := by omega
  have bP : 0 ≤ p.Proto % 256 ∧ p.Proto % 256 ≤ 255 := by omega
  have bL : 0 ≤ p.TTL % 256 ∧ p.TTL % 256 ≤ 255 := by omega
  have bI : 0 ≤ p.ID % 65536 ∧ p.ID % 65536 ≤ 65535 := by omega
  have bO : 0 ≤ p.Off % 65536 / 8 * 8 ∧ p.Off % 65536 / 8 * 8 ≤ 65528 := by omega
  have bO8 : p.Off % 65536 / 8 * 8 % 8 = 0 := by omega
  obtain ⟨T, hT⟩ : ∃ T, T = p.TOS % 256 := ⟨_, rfl⟩
  obtain ⟨Pr, hPr⟩ : ∃ T, T = p.Proto % 256 := ⟨_, rfl⟩
  obtain ⟨Tt, hTt⟩ : ∃ T, T = p.TTL % 256 := ⟨_, rfl⟩
  obtain ⟨I, hI⟩ : ∃ T, T = p.ID % 65536 := ⟨_, rfl⟩
  obtain ⟨O, hO⟩ : ∃ T, T = p.Off % 65536 / 8 * 8 := ⟨_, rfl⟩
  rw [← hT, ← hPr, ← hTt, ← hI, ← hO] at S
  rw [← hT] at bT
  rw [← hPr] at bP
  rw [← hTt] at bL
  rw [← hI] at bI
  rw [← hO] at bO bO8
  clear hT hPr hTt hI hO
  generalize hb3 : (World.heap _).size = b3 at S
  (try simp only [Act.put, List.setIfInBounds_toArray, List.set_cons_zero, List.set_cons_succ])
  have YS := IS.out.byt
  have YD := ID'.out.byt
  go_loopw [4] (fun v wr => ∃ k : Nat, k ≤ 4 ∧ v = .int .i64 k ∧ Sp w wr [.blk b3 (pkC { pk0 with V := 4, TOS := T, sV := 4, sB := fill16 p.sB k, dV := 4, dB := fill16 p.dB k, Proto := Pr, TTL := Tt, ID := I, DF := p.DF, More := p.More, Off := O }) 30, .blk (b + 1) (pkC pk0) 30, .blk b (pkC p) 30]) (fun v _ => (4 - intOf v).toNat)
  · exact ⟨0, by omega, rfl, by rw [fill16_none, fill16_none]; exact S.out⟩
  · obtain ⟨k, hk, rfl, hS⟩ := hrel
    replace S := hid hS
    clear hS
    have w' := wr
    have L3 : (fill16 p.sB k).length = 16 := fill16_len (by omega) (by omega)
    have L4 : (fill16 p.dB k).length = 16 := fill16_len (by omega) (by omega)
    by_cases hlt : k < 4
    · have F1 := hid (fill16_set (l := p.sB) (k := k) (by omega) (by omega))
      have F2 := hid (fill16_set (l := p.dB) (k := k) (by omega) (by omega))
      have y3 : IntKind.i64.wrap ((k : Int) + 1) = ((k + 1 : Nat) : Int) := by rw [IntWalk.i64_in _ (by omega)]; omega
      have hd : decide ((k : Int) < 4) = true := by simp; omega
      have h16 : (k : Int) < 16 := by omega
      go_wp2_with (first
        | go_skip
        | ((with_reducible show wpList _ _ _ _ _ _)
           first
           | ((with_reducible show wpList _ _ _ (⟨_, .load _ _, _, _, _, _⟩ :: _) _ _); refine wpList_get_sb (by rfl) _ rfl S.out _ _ rfl 2 _ rfl k rfl (by omega) L1 ?_)
           | ((with_reducible show wpList _ _ _ (⟨_, .load _ _, _, _, _, _⟩ :: _) _ _); refine wpList_get_db (by rfl) _ rfl S.out _ _ rfl 2 _ rfl k rfl (by omega) L1 L2 ?_)
           | ((with_reducible show wpList _ _ _ (⟨_, .store _ _ _, _, _, _, _⟩ :: _) _ _); refine wpList_put_sb (by rfl) _ _ rfl rfl S.out _ _ rfl _ rfl 0 _ rfl k rfl (by omega) L3 L4 ?_; intro w' hS; simp only [List.set] at hS; replace S := hid hS; clear hS)
           | ((with_reducible show wpList _ _ _ (⟨_, .store _ _ _, _, _, _, _⟩ :: _) _ _); refine wpList_put_db (by rfl) _ _ rfl rfl S.out _ _ rfl _ rfl 0 _ rfl k rfl (by omega) (by simpa using L3) L4 ?_; intro w' hS; simp only [List.set] at hS; replace S := hid hS; clear hS)))
      go_roundw
      case rel =>
        refine ⟨k + 1, by omega, ?_, by have := S.out; simp only [F1.out, F2.out] at this; exact this⟩
        first | rfl | (simp; done)
      case measure => simp [intOf]; omega
    · obtain rfl : k = 4 := by omega
      have hd : decide ((((4 : Nat) : Int)) < 4) = false := by decide
      have Z1 : zerosB ((fill16 p.sB 4).drop 4) = true := by unfold fill16; exact pad_zeros (by simp; omega)
      have Z2 : zerosB ((fill16 p.dB 4).drop 4) = true := by unfold fill16; exact pad_zeros (by simp; omega)
      have I1 : Hid (IsA 4 (fill16 p.sB 4)) := hid ⟨L3, Byt.append (YS.take 4) (by intro y hy; rw [List.eq_of_mem_replicate hy]; decide), by decide, by decide⟩
      have I2 : Hid (IsA 4 (fill16 p.dB 4)) := hid ⟨L4, Byt.append (YD.take 4) (by intro y hy; rw [List.eq_of_mem_replicate hy]; decide), by decide, by decide⟩
      replace Z1 := hid Z1
      replace Z2 := hid Z2
      generalize fill16 p.sB 4 = sb at *
      generalize fill16 p.dB 4 = db at *
      clear hd hk
      obtain ⟨M, hM⟩ : ∃ M : Nat, M = min (lo.length / 4 * 4) 40 := ⟨_, rfl⟩
      have hM4 : M ≤ 40 ∧ M % 4 = 0 ∧ M ≤ lo.length / 4 * 4 := by omega
      have hMc : M = lo.length / 4 * 4 ∨ M = 40 := by omega
      have oq : ((lo.length : Int)) / 4 * 4 = ((lo.length / 4 * 4 : Nat) : Int) := by omega
      have sq : IntKind.i64.wrap ((lo.length : Int) / 4 * 4) = ((lo.length / 4 * 4 : Nat) : Int) := by rw [IntWalk.i64_in _ (by omega)]; exact oq
      clear oq hM
      generalize hon : lo.length / 4 * 4 = on4 at *
      generalize hon2 : lo.length = on at *
      have S2 : Hid (Sp w _ (.row (.slice none 0 0) 5 1 0 (bts []) :: _)) := hid (S.out.nilrow 5 1)
      clear S
      go_upto_region 10 with fail
      go_loopw [5] (fun v wr => ∃ k a c, k ≤ M ∧ v = .int .i64 (k : Int) ∧ Sp w wr [.row (.slice a k c) 5 1 k (bts (List.replicate k 1)), .blk b3 (pkC { pk0 with V := 4, TOS := T, sV := 4, sB := sb, dV := 4, dB := db, Proto := Pr, TTL := Tt, ID := I, DF := p.DF, More := p.More, Off := O, ov := .slice a k c }) 30, .blk (b + 1) (pkC pk0) 30, .blk b (pkC p) 30]) (fun v _ => (40 - intOf v).toNat)
      · exact ⟨0, none, 0, by omega, rfl, S2.out⟩
      · obtain ⟨k, ra, rc, hk, rfl, hS⟩ := hrel
        have S := hid hS
        clear hS S2
        have w' := wr
        have GO := hid (show pkGet p 44 = some (.slice oa on oc) from by rw [← eo.out]; rfl)
        have GX := hid (show pkGet p 45 = some (.slice xa ld.length xc) from by rw [← ex.out]; rfl)
        by_cases hlt : k < M
        · have RS := hid (show List.replicate k (1 : Int) ++ [1] = List.replicate (k + 1) 1 from by rw [List.replicate_succ'])
          have y3 : IntKind.i64.wrap ((k : Int) + 1) = (k : Int) + 1 := IntWalk.i64_in _ (by omega)
          have hd1 : decide ((k : Int) < (on4 : Int)) = true := by simp; omega
          have hd2 : decide ((k : Int) < 40) = true := by simp; omega
          go_wp2_with (first
            | go_skip
            | (((with_reducible show wpList _ _ _ (_ :: _) _ (World.alloc _ (.cells _ 5))); refine wpList_world fun w' hw2 => ?_; (first | (replace S := hid (S.out.lit (l := []) (n := 0) hw2 rfl rfl (by decide))) | (replace S := hid (S.out.lit (l := [_]) (n := 1) hw2 rfl rfl (by decide))) | (replace S := hid (S.out.lit (l := [_, _]) (n := 2) hw2 rfl rfl (by decide))) | (replace S := hid (S.out.lit (l := [_, _, _]) (n := 3) hw2 rfl rfl (by decide))) | (replace S := hid (S.out.lit (l := [_, _, _, _]) (n := 4) hw2 rfl rfl (by decide)))); clear hw2))
            | ((with_reducible show wpList _ _ _ _ _ _)
               first
               | ((with_reducible show wpList _ _ _ (⟨some 55, _, _, _, _, _⟩ :: _) _ _); refine wpList_get_pk (by rfl) _ _ rfl S.out _ _ rfl 3 _ rfl _ GO.out (by rfl) L1 L2 ?_)
               | ((with_reducible show wpList _ _ _ (⟨_, .load _ _, _, _, _, _⟩ :: _) _ _); refine wpList_get_pk (by rfl) _ _ rfl S.out _ _ rfl 1 _ rfl _ rfl (by rfl) L3 L4 ?_)
               | ((with_reducible show wpList _ _ _ (⟨_, .store _ _ _, _, _, _, _⟩ :: _) _ _); refine wpList_put_pk (by rfl) _ _ _ rfl rfl S.out _ _ rfl 2 _ rfl _ rfl _ rfl (by rfl) L3 L4 ?_; intro w' hS; simp only [List.set] at hS; replace S := hid hS; clear hS; replace S := hid (S.out.sub (List.sublist_cons_self _ _)))
               | (at_builtin; refine wpList_grow (by rfl) _ _ rfl S.out 1 rfl rfl _ [1] rfl (S.out.rb 0 rfl (Byt.one (by decide) (by decide))) (k + 1) (by simp) (by omega) ?_; rintro a2 c2 w' hS; simp only [List.set_cons_zero, List.set_cons_succ] at hS; rw [RS.out] at hS; replace S := hid hS; clear hS)))
          go_roundw
          case rel => exact ⟨k + 1, a2, c2, by omega, by first | rfl | (simp; done), S.out⟩
          case measure => simp [intOf]; omega
        · obtain rfl : k = M := by omega
          clear hlt
          have w1 : IntKind.i64.wrap (65535 - O) = 65535 - O := IntWalk.i64_in _ (by omega)
          have w2 : IntKind.i64.wrap (65515 - (k : Int)) = 65515 - (k : Int) := IntWalk.i64_in _ (by omega)
          have w3 : IntKind.i64.wrap ((ld.length : Int) / 8 * 8) = (ld.length : Int) / 8 * 8 := IntWalk.i64_in _ (by omega)
          have w4 : IntKind.i64.wrap ((65535 - O) / 8 * 8) = (65535 - O) / 8 * 8 := IntWalk.i64_in _ (by omega)
          have w5 : IntKind.i64.wrap ((65515 - (k : Int)) / 8 * 8) = (65515 - (k : Int)) / 8 * 8 := IntWalk.i64_in _ (by omega)
          have LX := hl.2
          generalize hnx : ld.length = nx at *
          have HNX := hid hnx
          have ELI := hid hM4
          clear hnx
          have hdd : decide ((k : Int) < (on4 : Int)) = false ∨ decide ((k : Int) < (on4 : Int)) = true ∧ decide ((k : Int) < 40) = false := by
            by_cases hko : k < on4
            · right; exact ⟨by simp; omega, by simp; omega⟩
            · left; simp; omega
          have w6 : ∀ z : Int, 0 ≤ z → z ≤ 65535 → IntKind.i64.wrap (z / 8 * 8) = z / 8 * 8 := fun z h0 h1 => IntWalk.i64_in _ (by omega)
          clear w3 w4 w5
          cases hmo : p.More
          all_goals (
          rw [hmo] at S
          go_upto_region 13 with (first | go_skip | ((with_reducible show wpList _ _ _ _ _ _); ((with_reducible show wpList _ _ _ (⟨some 55, _, _, _, _, _⟩ :: _) _ _); refine wpList_get_pk (by rfl) _ _ rfl S.out _ _ rfl 3 _ rfl _ GO.out (by rfl) L1 L2 ?_)))
          all_goals (try (exfalso; omega))
          all_goals (
          go_upto_if 78 with (first | go_skip | ((with_reducible show wpList _ _ _ _ _ _); first | ((with_reducible show wpList _ _ _ (⟨some 72, _, _, _, _, _⟩ :: _) _ _); refine wpList_get_pk (by rfl) _ _ rfl S.out _ _ rfl 3 _ rfl _ GX.out (by rfl) L1 L2 ?_) | ((with_reducible show wpList _ _ _ (⟨some 102, _, _, _, _, _⟩ :: _) _ _); refine wpList_get_pk (by rfl) _ _ rfl S.out _ _ rfl 3 _ rfl _ GX.out (by rfl) L1 L2 ?_) | ((with_reducible show wpList _ _ _ (⟨_, .load 30 _, _, _, _, _⟩ :: _) _ _); refine wpList_getW (by rfl) _ rfl S.out _ rfl 2 _ rfl L3 L4 ?_) | ((with_reducible show wpList _ _ _ (⟨_, .load _ _, _, _, _, _⟩ :: _) _ _); refine wpList_get_pk (by rfl) _ _ rfl S.out _ _ rfl 1 _ rfl _ rfl (by rfl) L3 L4 ?_) | ((with_reducible show wpList _ _ _ (⟨_, .store _ _ _, _, _, _, _⟩ :: _) _ _); refine wpList_put_pk (by rfl) _ _ _ rfl rfl S.out _ _ rfl 1 _ rfl _ rfl _ rfl (by rfl) L3 L4 ?_; intro w' hS; simp only [List.set] at hS; replace S := hid hS; clear hS) | ((with_reducible show wpList _ _ _ (⟨_, .store _ _ _, _, _, _, _⟩ :: _) _ _); refine wpList_put_pk (by rfl) _ _ _ rfl rfl S.out _ _ rfl 2 _ rfl _ rfl _ rfl (by rfl) L3 L4 ?_; intro w' hS; simp only [List.set] at hS; replace S := hid hS; clear hS) | ((with_reducible show wpList _ _ _ (⟨_, .store _ _ _, _, _, _, _⟩ :: _) _ _); refine wpList_putW (by rfl) _ _ rfl rfl S.out _ rfl 3 _ rfl _ rfl L3 L4 rfl rfl rfl rfl ?_; intro w' hS; simp only [List.set] at hS; replace S := hid hS; clear hS) | ((with_reducible show wpList _ _ _ (⟨_, .slice _ _ _ _ _, _, _, _, _⟩ :: _) _ _); refine wpList_frontZ (by rfl) _ _ rfl _ _ _ rfl _ _ rfl (by omega) (by omega) ?_)) | (go_at_call 12; refine (OX.out _ _ _ ((PI.out.below S.out.bel).xR.frontV ex.out _ (by rw [HNX.out]; omega)) (by simp; omega)).mono ?_; rintro en w' ⟨sx, cx, rfl, hS⟩; replace hS := S.out.call hS; simp only [List.cons_append, List.nil_append] at hS; replace S := hid hS; clear hS))
          (try simp only [Act.put, List.setIfInBounds_toArray, List.set_cons_zero, List.set_cons_succ])
          go_cut [6] from 53 (fun v wc => ∃ z : Int, v = .int .i64 z ∧ (0 ≤ z ∧ z ≤ nx ∧ z ≤ 65535 - O) ∧ wr = wc)
          case first =>
            go_wp2_with (first | go_skip | ((with_reducible show wpList _ _ _ _ _ _); first | ((with_reducible show wpList _ _ _ (⟨_, .binOp _ _ _ _ _, _, _, _, _⟩ :: _) _ _); refine wpList_cmp (by rfl) _ (by rfl) _ _ _ _ rfl _ (by go_simp; exact rfl) ?_ ?_ <;> (intro hc; (try simp only [decide_eq_true_eq, decide_eq_false_iff_not, Int.not_lt] at hc))) | ((with_reducible show wpList _ _ _ (⟨some 72, _, _, _, _, _⟩ :: _) _ _); refine wpList_get_pk (by rfl) _ _ rfl S.out _ _ rfl 3 _ rfl _ GX.out (by rfl) L1 L2 ?_) | ((with_reducible show wpList _ _ _ (⟨some 102, _, _, _, _, _⟩ :: _) _ _); refine wpList_get_pk (by rfl) _ _ rfl S.out _ _ rfl 3 _ rfl _ GX.out (by rfl) L1 L2 ?_) | ((with_reducible show wpList _ _ _ (⟨_, .load 30 _, _, _, _, _⟩ :: _) _ _); refine wpList_getW (by rfl) _ rfl S.out _ rfl 2 _ rfl L3 L4 ?_) | ((with_reducible show wpList _ _ _ (⟨_, .load _ _, _, _, _, _⟩ :: _) _ _); refine wpList_get_pk (by rfl) _ _ rfl S.out _ _ rfl 1 _ rfl _ rfl (by rfl) L3 L4 ?_) | ((with_reducible show wpList _ _ _ (⟨_, .store _ _ _, _, _, _, _⟩ :: _) _ _); refine wpList_put_pk (by rfl) _ _ _ rfl rfl S.out _ _ rfl 1 _ rfl _ rfl _ rfl (by rfl) L3 L4 ?_; intro w' hS; simp only [List.set] at hS; replace S := hid hS; clear hS) | ((with_reducible show wpList _ _ _ (⟨_, .store _ _ _, _, _, _, _⟩ :: _) _ _); refine wpList_put_pk (by rfl) _ _ _ rfl rfl S.out _ _ rfl 2 _ rfl _ rfl _ rfl (by rfl) L3 L4 ?_; intro w' hS; simp only [List.set] at hS; replace S := hid hS; clear hS) | ((with_reducible show wpList _ _ _ (⟨_, .store _ _ _, _, _, _, _⟩ :: _) _ _); refine wpList_putW (by rfl) _ _ rfl rfl S.out _ rfl 3 _ rfl _ rfl L3 L4 rfl rfl rfl rfl ?_; intro w' hS; simp only [List.set] at hS; replace S := hid hS; clear hS) | ((with_reducible show wpList _ _ _ (⟨_, .slice _ _ _ _ _, _, _, _, _⟩ :: _) _ _); refine wpList_frontZ (by rfl) _ _ rfl _ _ _ rfl _ _ rfl (by omega) (by omega) ?_)) | (go_at_call 12; refine (OX.out _ _ _ ((PI.out.below S.out.bel).xR.frontV ex.out _ (by rw [HNX.out]; omega)) (by simp; omega)).mono ?_; rintro en w' ⟨sx, cx, rfl, hS⟩; replace hS := S.out.call hS; simp only [List.cons_append, List.nil_append] at hS; replace S := hid hS; clear hS))
            all_goals
              go_meet
              exact ⟨_, rfl, by omega, rfl⟩
          case rest =>
          obtain ⟨z1, rfl, hz1, rfl⟩ := hcut
          go_upto_if 87 with (first | go_skip | ((with_reducible show wpList _ _ _ _ _ _); first | ((with_reducible show wpList _ _ _ (⟨some 72, _, _, _, _, _⟩ :: _) _ _); refine wpList_get_pk (by rfl) _ _ rfl S.out _ _ rfl 3 _ rfl _ GX.out (by rfl) L1 L2 ?_) | ((with_reducible show wpList _ _ _ (⟨some 102, _, _, _, _, _⟩ :: _) _ _); refine wpList_get_pk (by rfl) _ _ rfl S.out _ _ rfl 3 _ rfl _ GX.out (by rfl) L1 L2 ?_) | ((with_reducible show wpList _ _ _ (⟨_, .load 30 _, _, _, _, _⟩ :: _) _ _); refine wpList_getW (by rfl) _ rfl S.out _ rfl 2 _ rfl L3 L4 ?_) | ((with_reducible show wpList _ _ _ (⟨_, .load _ _, _, _, _, _⟩ :: _) _ _); refine wpList_get_pk (by rfl) _ _ rfl S.out _ _ rfl 1 _ rfl _ rfl (by rfl) L3 L4 ?_) | ((with_reducible show wpList _ _ _ (⟨_, .store _ _ _, _, _, _, _⟩ :: _) _ _); refine wpList_put_pk (by rfl) _ _ _ rfl rfl S.out _ _ rfl 1 _ rfl _ rfl _ rfl (by rfl) L3 L4 ?_; intro w' hS; simp only [List.set] at hS; replace S := hid hS; clear hS) | ((with_reducible show wpList _ _ _ (⟨_, .store _ _ _, _, _, _, _⟩ :: _) _ _); refine wpList_put_pk (by rfl) _ _ _ rfl rfl S.out _ _ rfl 2 _ rfl _ rfl _ rfl (by rfl) L3 L4 ?_; intro w' hS; simp only [List.set] at hS; replace S := hid hS; clear hS) | ((with_reducible show wpList _ _ _ (⟨_, .store _ _ _, _, _, _, _⟩ :: _) _ _); refine wpList_putW (by rfl) _ _ rfl rfl S.out _ rfl 3 _ rfl _ rfl L3 L4 rfl rfl rfl rfl ?_; intro w' hS; simp only [List.set] at hS; replace S := hid hS; clear hS) | ((with_reducible show wpList _ _ _ (⟨_, .slice _ _ _ _ _, _, _, _, _⟩ :: _) _ _); refine wpList_frontZ (by rfl) _ _ rfl _ _ _ rfl _ _ rfl (by omega) (by omega) ?_)) | (go_at_call 12; refine (OX.out _ _ _ ((PI.out.below S.out.bel).xR.frontV ex.out _ (by rw [HNX.out]; omega)) (by simp; omega)).mono ?_; rintro en w' ⟨sx, cx, rfl, hS⟩; replace hS := S.out.call hS; simp only [List.cons_append, List.nil_append] at hS; replace S := hid hS; clear hS))
          (try simp only [Act.put, List.setIfInBounds_toArray, List.set_cons_zero, List.set_cons_succ])
          go_cut [6] from 53 (fun v wc => ∃ z : Int, v = .int .i64 z ∧ (0 ≤ z ∧ z ≤ nx ∧ z ≤ 65535 - O ∧ z ≤ 65515 - (k : Int)) ∧ wr = wc)
          case first =>
            go_wp2_with (first | go_skip | ((with_reducible show wpList _ _ _ _ _ _); first | ((with_reducible show wpList _ _ _ (⟨_, .binOp _ _ _ _ _, _, _, _, _⟩ :: _) _ _); refine wpList_cmp (by rfl) _ (by rfl) _ _ _ _ rfl _ (by go_simp; exact rfl) ?_ ?_ <;> (intro hc; (try simp only [decide_eq_true_eq, decide_eq_false_iff_not, Int.not_lt] at hc))) | ((with_reducible show wpList _ _ _ (⟨some 72, _, _, _, _, _⟩ :: _) _ _); refine wpList_get_pk (by rfl) _ _ rfl S.out _ _ rfl 3 _ rfl _ GX.out (by rfl) L1 L2 ?_) | ((with_reducible show wpList _ _ _ (⟨some 102, _, _, _, _, _⟩ :: _) _ _); refine wpList_get_pk (by rfl) _ _ rfl S.out _ _ rfl 3 _ rfl _ GX.out (by rfl) L1 L2 ?_) | ((with_reducible show wpList _ _ _ (⟨_, .load 30 _, _, _, _, _⟩ :: _) _ _); refine wpList_getW (by rfl) _ rfl S.out _ rfl 2 _ rfl L3 L4 ?_) | ((with_reducible show wpList _ _ _ (⟨_, .load _ _, _, _, _, _⟩ :: _) _ _); refine wpList_get_pk (by rfl) _ _ rfl S.out _ _ rfl 1 _ rfl _ rfl (by rfl) L3 L4 ?_) | ((with_reducible show wpList _ _ _ (⟨_, .store _ _ _, _, _, _, _⟩ :: _) _ _); refine wpList_put_pk (by rfl) _ _ _ rfl rfl S.out _ _ rfl 1 _ rfl _ rfl _ rfl (by rfl) L3 L4 ?_; intro w' hS; simp only [List.set] at hS; replace S := hid hS; clear hS) | ((with_reducible show wpList _ _ _ (⟨_, .store _ _ _, _, _, _, _⟩ :: _) _ _); refine wpList_put_pk (by rfl) _ _ _ rfl rfl S.out _ _ rfl 2 _ rfl _ rfl _ rfl (by rfl) L3 L4 ?_; intro w' hS; simp only [List.set] at hS; replace S := hid hS; clear hS) | ((with_reducible show wpList _ _ _ (⟨_, .store _ _ _, _, _, _, _⟩ :: _) _ _); refine wpList_putW (by rfl) _ _ rfl rfl S.out _ rfl 3 _ rfl _ rfl L3 L4 rfl rfl rfl rfl ?_; intro w' hS; simp only [List.set] at hS; replace S := hid hS; clear hS) | ((with_reducible show wpList _ _ _ (⟨_, .slice _ _ _ _ _, _, _, _, _⟩ :: _) _ _); refine wpList_frontZ (by rfl) _ _ rfl _ _ _ rfl _ _ rfl (by omega) (by omega) ?_)) | (go_at_call 12; refine (OX.out _ _ _ ((PI.out.below S.out.bel).xR.frontV ex.out _ (by rw [HNX.out]; omega)) (by simp; omega)).mono ?_; rintro en w' ⟨sx, cx, rfl, hS⟩; replace hS := S.out.call hS; simp only [List.cons_append, List.nil_append] at hS; replace S := hid hS; clear hS))
            all_goals
              go_meet
              exact ⟨_, rfl, by omega, rfl⟩
          case rest =>
          clear hz1
          obtain ⟨z2, rfl, hz2, rfl⟩ := hcut
          have w7 := w6 z2 (by omega) (by omega)
          go_upto_if 93 with (first | go_skip | ((with_reducible show wpList _ _ _ _ _ _); first | ((with_reducible show wpList _ _ _ (⟨some 72, _, _, _, _, _⟩ :: _) _ _); refine wpList_get_pk (by rfl) _ _ rfl S.out _ _ rfl 3 _ rfl _ GX.out (by rfl) L1 L2 ?_) | ((with_reducible show wpList _ _ _ (⟨some 102, _, _, _, _, _⟩ :: _) _ _); refine wpList_get_pk (by rfl) _ _ rfl S.out _ _ rfl 3 _ rfl _ GX.out (by rfl) L1 L2 ?_) | ((with_reducible show wpList _ _ _ (⟨_, .load 30 _, _, _, _, _⟩ :: _) _ _); refine wpList_getW (by rfl) _ rfl S.out _ rfl 2 _ rfl L3 L4 ?_) | ((with_reducible show wpList _ _ _ (⟨_, .load _ _, _, _, _, _⟩ :: _) _ _); refine wpList_get_pk (by rfl) _ _ rfl S.out _ _ rfl 1 _ rfl _ rfl (by rfl) L3 L4 ?_) | ((with_reducible show wpList _ _ _ (⟨_, .store _ _ _, _, _, _, _⟩ :: _) _ _); refine wpList_put_pk (by rfl) _ _ _ rfl rfl S.out _ _ rfl 1 _ rfl _ rfl _ rfl (by rfl) L3 L4 ?_; intro w' hS; simp only [List.set] at hS; replace S := hid hS; clear hS) | ((with_reducible show wpList _ _ _ (⟨_, .store _ _ _, _, _, _, _⟩ :: _) _ _); refine wpList_put_pk (by rfl) _ _ _ rfl rfl S.out _ _ rfl 2 _ rfl _ rfl _ rfl (by rfl) L3 L4 ?_; intro w' hS; simp only [List.set] at hS; replace S := hid hS; clear hS) | ((with_reducible show wpList _ _ _ (⟨_, .store _ _ _, _, _, _, _⟩ :: _) _ _); refine wpList_putW (by rfl) _ _ rfl rfl S.out _ rfl 3 _ rfl _ rfl L3 L4 rfl rfl rfl rfl ?_; intro w' hS; simp only [List.set] at hS; replace S := hid hS; clear hS) | ((with_reducible show wpList _ _ _ (⟨_, .slice _ _ _ _ _, _, _, _, _⟩ :: _) _ _); refine wpList_frontZ (by rfl) _ _ rfl _ _ _ rfl _ _ rfl (by omega) (by omega) ?_)) | (go_at_call 12; refine (OX.out _ _ _ ((PI.out.below S.out.bel).xR.frontV ex.out _ (by rw [HNX.out]; omega)) (by simp; omega)).mono ?_; rintro en w' ⟨sx, cx, rfl, hS⟩; replace hS := S.out.call hS; simp only [List.cons_append, List.nil_append] at hS; replace S := hid hS; clear hS))
          all_goals (
          go_wp2_with (first | go_skip | ((with_reducible show wpList _ _ _ _ _ _); first | ((with_reducible show wpList _ _ _ (⟨_, .binOp _ _ _ _ _, _, _, _, _⟩ :: _) _ _); refine wpList_cmp (by rfl) _ (by rfl) _ _ _ _ rfl _ (by go_simp; exact rfl) ?_ ?_ <;> (intro hc; (try simp only [decide_eq_true_eq, decide_eq_false_iff_not, Int.not_lt] at hc))) | ((with_reducible show wpList _ _ _ (⟨some 72, _, _, _, _, _⟩ :: _) _ _); refine wpList_get_pk (by rfl) _ _ rfl S.out _ _ rfl 3 _ rfl _ GX.out (by rfl) L1 L2 ?_) | ((with_reducible show wpList _ _ _ (⟨some 102, _, _, _, _, _⟩ :: _) _ _); refine wpList_get_pk (by rfl) _ _ rfl S.out _ _ rfl 3 _ rfl _ GX.out (by rfl) L1 L2 ?_) | ((with_reducible show wpList _ _ _ (⟨_, .load 30 _, _, _, _, _⟩ :: _) _ _); refine wpList_getW (by rfl) _ rfl S.out _ rfl 2 _ rfl L3 L4 ?_) | ((with_reducible show wpList _ _ _ (⟨_, .load _ _, _, _, _, _⟩ :: _) _ _); refine wpList_get_pk (by rfl) _ _ rfl S.out _ _ rfl 1 _ rfl _ rfl (by rfl) L3 L4 ?_) | ((with_reducible show wpList _ _ _ (⟨_, .store _ _ _, _, _, _, _⟩ :: _) _ _); refine wpList_put_pk (by rfl) _ _ _ rfl rfl S.out _ _ rfl 1 _ rfl _ rfl _ rfl (by rfl) L3 L4 ?_; intro w' hS; simp only [List.set] at hS; replace S := hid hS; clear hS) | ((with_reducible show wpList _ _ _ (⟨_, .store _ _ _, _, _, _, _⟩ :: _) _ _); refine wpList_put_pk (by rfl) _ _ _ rfl rfl S.out _ _ rfl 2 _ rfl _ rfl _ rfl (by rfl) L3 L4 ?_; intro w' hS; simp only [List.set] at hS; replace S := hid hS; clear hS) | ((with_reducible show wpList _ _ _ (⟨_, .store _ _ _, _, _, _, _⟩ :: _) _ _); refine wpList_putW (by rfl) _ _ rfl rfl S.out _ rfl 3 _ rfl _ rfl L3 L4 rfl rfl rfl rfl ?_; intro w' hS; simp only [List.set] at hS; replace S := hid hS; clear hS) | ((with_reducible show wpList _ _ _ (⟨_, .slice _ _ _ _ _, _, _, _, _⟩ :: _) _ _); refine wpList_frontZ (by rfl) _ _ rfl _ _ _ rfl _ _ rfl (by omega) (by omega) ?_)) | (go_at_call 12; refine (OX.out _ _ _ ((PI.out.below S.out.bel).xR.frontV ex.out _ (by rw [HNX.out]; omega)) (by simp; omega)).mono ?_; rintro en w' ⟨sx, cx, rfl, hS⟩; replace hS := S.out.call hS; simp only [List.cons_append, List.nil_append] at hS; replace S := hid hS; clear hS))
          all_goals (
            simp only [beq_iff_eq, beq_eq_false_iff_ne, ne_eq] at hc
            have E1 : min z2.toNat ld.length = z2.toNat := by rw [HNX.out]; omega
            have E2 : min (z2 / 8 * 8).toNat ld.length = (z2 / 8 * 8).toNat := by rw [HNX.out]; omega
            simp only [List.length_take, E1, E2] at S
            have hNX := HNX.out
            refine post_pk1 Tryd.results25 rfl _ _ rfl (S.out.pk 3 rfl) L3 L4 (mend_end _ rfl rfl S.out (by repeat (first | exact List.Sublist.refl _ | exact List.nil_sublist _ | apply List.Sublist.cons_cons | apply List.Sublist.cons)) I1.out I2.out ⟨bI.1, bI.2⟩ (YX.take _) (by rw [List.length_take]; omega) ⟨rfl, rfl, rfl⟩ ⟨rfl, Z1.out⟩ ⟨rfl, Z2.out⟩ ⟨bT, bP, bL⟩ ⟨?_, ?_, ?_⟩ ⟨hM4.1, hM4.2.1⟩ (by omega))
            · dsimp only; omega
            · dsimp only; intro hm; first | (cases hm; done) | omega
            · dsimp only; omega))
          ))
def MendC (w : World) (en : Ending) (w' : World) : Prop :=
  ∃ q os xs bl no nx nb so co sx cx, en = .returned (.agg (pkC (pkO q (.slice so no co) (.slice sx nx cx)))) ∧ Sp w w' [.row (.slice sx nx cx) 5 1 nx (bts xs), .row (.slice so no co) 5 1 no (bts os)] ∧ RC4 q os xs bl no nx nb
theorem mend_c (p : Pk) (lo ld : List Int) (w : World) (h : Pin w p lo ld) (hl : lo.length ≤ 140737488355328 ∧ ld.length ≤ 140737488355328) : Calls Tryd.prog 25 #[.agg (pkC p)] w (MendC w) := by
  refine (mend_any p lo ld w h hl).mono fun _ _ hh => ?_
  obtain ⟨q, no, xs, nx, so, co, sx, cx, he, hS, hq, yx, hx, hr⟩ := hh
  have := rc4_of hq (ones_byt no) yx hr
  rw [List.length_replicate, hx] at this
  exact ⟨_, _, _, _, _, _, _, _, _, _, _, he, hS, this⟩
theorem same_zeroP (w : World) : Calls Tryd.prog 15 #[.agg (pkC pk0), .agg #[.int .i64 0, .int .i64 0, .int .i64 0, .int .i64 0, .int .u8 0, .int .u8 0, .int .u8 0, .int .u8 0, .int .u8 0, .int .u8 0, .int .u8 0, .int .u8 0, .int .u8 0, .int .u8 0, .int .u8 0, .int .u8 0, .int .u8 0, .int .u8 0, .int .u8 0, .int .u8 0, .int .i64 0, .int .u8 0, .int .u8 0, .int .u8 0, .int .u8 0, .int .u8 0, .int .u8 0, .int .u8 0, .int .u8 0, .int .u8 0, .int .u8 0, .int .u8 0, .int .u8 0, .int .u8 0, .int .u8 0, .int .u8 0, .int .u8 0, .int .i64 0, .int .i64 0, .int .u32 0, .bool false, .bool false, .bool false, .int .i64 0, .slice none 0 0, .slice none 0 0]] w (APost w (.bool true)) :=
  (sameP_any pk0 pk0 [] [] [] [] w pk0_is pk0_is (Rb.nil w) (Rb.nil w) (Rb.nil w) (Rb.nil w)).mono fun en w' ⟨he, hb⟩ => ⟨he.trans (congrArg (fun b => Ending.returned (.bool b)) (by rfl)), hb⟩
theorem par_no4 {l : List Int} (he : p4E l ≠ 0) (hl : l.length ≤ 140737488355328) (v : Value) (w : World) (h : Rb w v l) (hT : Tab w) : Calls Tryd.prog 13 #[v] w (APost w (.tuple #[.agg (pkC pk0), .int .i64 (p4E l)])) :=
  (parse4_any v l w h hT hl).mono fun _ _ hh => hh.1 he
theorem rc4_form {l : List Int} (hb : Byt l) (he : p4E l = 0) : ∃ q os xs no nx, RC4 q os xs l no nx l.length := by
  have h1 := (p4E_parts he).1
  have := rc4_of (p4K_is hb h1 (o := .slice none 0 0) (x := .slice none 0 0) rfl rfl) (hb.drop 20 |>.take (head4 l - 20)) (hb.drop (head4 l)) (right4_form hb he)
  have e : b4L (p4K l (.slice none 0 0) (.slice none 0 0)) ((l.drop 20).take (head4 l - 20)) (l.drop (head4 l)) = l := form4 hb he
  rw [e] at this
  exact ⟨_, _, _, _, _, this⟩
set_option maxHeartbeats 1000000 in
set_option maxRecDepth 20000 in
theorem ip4Back_any (p : Pk) (lo ld : List Int) (bv : Value) (l : List Int) (w : World) (hT : Tab w) (h : Pin w p lo ld) (hll : lo.length ≤ 140737488355328 ∧ ld.length ≤ 140737488355328) (hb : Rb w bv l) (hl : l.length ≤ 140737488355328) : Calls Tryd.prog 5 #[.agg (pkC p), bv] w (APost w (.bool true)) := by
  have L1 := h.pk.src.len
  have L2 := h.pk.dst.len
  have PI := hid h
  have LB := hid hll
  have TB := hid hT
  have MD := hid (fun W (hP : Pin W p lo ld) => mend_c p lo ld W hP LB.out)
  have HB := hid hb
  have HL := hid hl
  have YL := hb.byt
  obtain ⟨ba, bc, eb, _⟩ := hb.open
  subst eb
  have SZ := hid same_zeroP
  have AL := hid (fun W (hW : Tab W) => alive5_any W hW)
  have OB := hid (fun W v xs (hv : Rb W v xs) (hx : xs.length ≤ 140737488355328) => ownB_any v xs W hv hx)
  have OB2 := hid (fun W (hW : Rb W (.slice ba l.length bc) l) => ownB_any _ l W hW hl)
  have SA := hid (fun W v u (h1 : Rb W v l) (h2 : Rb W u l) => (show Calls Tryd.prog 16 #[v, u] W (SameP W true) from by have := sameB_any v u _ _ W h1 h2; rwa [decide_eq_true rfl] at this))
  have P := hid (fun en w' (h1 : en = .returned (.bool true)) (h2 : Sp w w' []) => show APost w (.bool true) en w' from ⟨h1, h2.bel⟩)
  have S : Hid (Sp w (w.alloc (.cells (pkC p) 30)) [.blk w.heap.size (pkC p) 30]) := hid (Sp.in1 ..)
  have CS : (∃ qb ob xb no nx, Hid (RC4 qb ob xb l no nx l.length)) ∨ ∃ k : Int, Hid (∀ v W, Rb W v l → Tab W → Calls Tryd.prog 13 #[v] W (APost W (.tuple #[.agg (pkC pk0), .int .i64 k]))) ∧ (k == 0) = false ∧ (k != 0) = true := by
    by_cases he : p4E l = 0
    · obtain ⟨q, os, xs, no, nx, hC⟩ := rc4_form YL he
      exact .inl ⟨q, os, xs, no, nx, hid hC⟩
    · exact .inr ⟨p4E l, hid fun v W h hT => par_no4 he HL.out v W h hT, by simpa using he, by simpa using he⟩
  generalize l.length = nl at *
  clear h hT hb hl hll
  rcases CS with ⟨qb, ob, xb, no2, nx2, D⟩ | ⟨k, PB, hk1, hk2⟩
  all_goals (
  go_enter Tryd.func5, Tryd.ntmps5
  go_upto_region 1 with fail
  generalize w.alloc (.cells (pkC p) 30) = w' at *
  generalize w.heap.size = b at *
  go_wp2_with (first
    | go_skip
    | (((with_reducible show wpList _ _ _ (_ :: _) _ (World.alloc _ (.cells _ 30))); refine wpList_world fun w' hw2 => ?_; replace S := hid (show Sp _ _ (.blk _ (pkC pk0) 30 :: _) from S.out.alloc hw2); clear hw2))
    | ((with_reducible show wpList _ _ _ _ _ _)
       first
       | ((with_reducible show wpList _ _ _ (⟨_, .load 30 _, _, _, _, _⟩ :: _) _ _); first | (refine wpList_getW (by rfl) _ rfl S.out _ rfl 0 _ rfl (by first | rfl | assumption) (by first | rfl | assumption) ?_) | (refine wpList_getW (by rfl) _ rfl S.out _ rfl 1 _ rfl (by first | rfl | assumption) (by first | rfl | assumption) ?_) | (refine wpList_getW (by rfl) _ rfl S.out _ rfl 2 _ rfl (by first | rfl | assumption) (by first | rfl | assumption) ?_) | (refine wpList_getW (by rfl) _ rfl S.out _ rfl 3 _ rfl (by first | rfl | assumption) (by first | rfl | assumption) ?_) | (refine wpList_getW (by rfl) _ rfl S.out _ rfl 4 _ rfl (by first | rfl | assumption) (by first | rfl | assumption) ?_) | (refine wpList_getW (by rfl) _ rfl S.out _ rfl 5 _ rfl (by first | rfl | assumption) (by first | rfl | assumption) ?_))
       | ((with_reducible show wpList _ _ _ (⟨_, .store _ _ _, _, _, _, _⟩ :: _) _ _); first | (refine wpList_putW (by rfl) _ _ rfl rfl S.out _ rfl 0 _ rfl _ rfl (by first | rfl | assumption) (by first | rfl | assumption) (by first | rfl | assumption) (by first | rfl | assumption) (by first | rfl | assumption) (by first | rfl | assumption) ?_; intro w' hS; simp only [List.set] at hS; replace S := hid hS; clear hS) | (refine wpList_putW (by rfl) _ _ rfl rfl S.out _ rfl 1 _ rfl _ rfl (by first | rfl | assumption) (by first | rfl | assumption) (by first | rfl | assumption) (by first | rfl | assumption) (by first | rfl | assumption) (by first | rfl | assumption) ?_; intro w' hS; simp only [List.set] at hS; replace S := hid hS; clear hS) | (refine wpList_putW (by rfl) _ _ rfl rfl S.out _ rfl 2 _ rfl _ rfl (by first | rfl | assumption) (by first | rfl | assumption) (by first | rfl | assumption) (by first | rfl | assumption) (by first | rfl | assumption) (by first | rfl | assumption) ?_; intro w' hS; simp only [List.set] at hS; replace S := hid hS; clear hS) | (refine wpList_putW (by rfl) _ _ rfl rfl S.out _ rfl 3 _ rfl _ rfl (by first | rfl | assumption) (by first | rfl | assumption) (by first | rfl | assumption) (by first | rfl | assumption) (by first | rfl | assumption) (by first | rfl | assumption) ?_; intro w' hS; simp only [List.set] at hS; replace S := hid hS; clear hS) | (refine wpList_putW (by rfl) _ _ rfl rfl S.out _ rfl 4 _ rfl _ rfl (by first | rfl | assumption) (by first | rfl | assumption) (by first | rfl | assumption) (by first | rfl | assumption) (by first | rfl | assumption) (by first | rfl | assumption) ?_; intro w' hS; simp only [List.set] at hS; replace S := hid hS; clear hS)))
    | (go_at_call 11; refine (AL.out _ (TB.out.below S.out.bel)).mono ?_; rintro en w' ⟨rfl, hb⟩; replace S := hid (S.out.keep hb); clear hb)
    | (go_at_call 25; refine (MD.out _ (PI.out.below S.out.bel)).mono ?_; rintro en w' ⟨q, os, xs, bl, no, nx, nb, so, co, sx, cx, rfl, hS, hC⟩; have C := hid hC; have L3 := hC.l1; have L4 := hC.l2; have YB := hC.yb; have HLB := hid (show bl.length ≤ 140737488355328 from by have := hC.lb; have := hC.small; omega); clear hC; replace hS := S.out.call hS; simp only [List.cons_append, List.nil_append] at hS; replace S := hid hS; clear hS)
    | (go_at_call 26; refine (C.out.own _ _ _ (by first | exact C.out.pin _ _ _ rfl rfl (S.out.rb 1 rfl C.out.yo) (S.out.rb 0 rfl C.out.yx) | exact C.out.pin _ _ _ rfl rfl (S.out.rb 2 rfl C.out.yo) (S.out.rb 1 rfl C.out.yx) | exact C.out.pin _ _ _ rfl rfl (S.out.rb 3 rfl C.out.yo) (S.out.rb 2 rfl C.out.yx) | exact C.out.pin _ _ _ rfl rfl (S.out.rb 4 rfl C.out.yo) (S.out.rb 3 rfl C.out.yx) | exact C.out.pin _ _ _ rfl rfl (S.out.rb 5 rfl C.out.yo) (S.out.rb 4 rfl C.out.yx) | exact C.out.pin _ _ _ rfl rfl (S.out.rb 6 rfl C.out.yo) (S.out.rb 5 rfl C.out.yx) | exact C.out.pin _ _ _ rfl rfl (S.out.rb 7 rfl C.out.yo) (S.out.rb 6 rfl C.out.yx) | exact C.out.pin _ _ _ rfl rfl (S.out.rb 8 rfl C.out.yo) (S.out.rb 7 rfl C.out.yx))).mono ?_; rintro en w' ⟨so, co, sx, cx, rfl, hS⟩; have P2 := hid (C.out.pin _ _ _ rfl rfl (hS.rb 1 rfl C.out.yo) (hS.rb 0 rfl C.out.yx)); replace S := hid (S.out.keep hS.bel); clear hS)
    | (go_at_call 18; refine (C.out.bld _ _ _ P2.out (TB.out.below S.out.bel)).mono ?_; clear P2; rintro en w' ⟨ca, cc, rfl, hS⟩; replace hS := S.out.call hS; simp only [List.cons_append, List.nil_append] at hS; replace S := hid hS; clear hS)
    | (go_at_call 12; first
       | (refine (OB.out _ _ _ (by (first | exact S.out.rb 0 rfl (by assumption) | exact S.out.rb 1 rfl (by assumption) | exact S.out.rb 2 rfl (by assumption) | exact S.out.rb 3 rfl (by assumption) | exact S.out.rb 4 rfl (by assumption) | exact S.out.rb 5 rfl (by assumption) | exact S.out.rb 6 rfl (by assumption))) (by exact HLB.out)).mono ?_; rintro en w' ⟨sw, cw, rfl, hS⟩; replace hS := S.out.call hS; simp only [List.cons_append, List.nil_append] at hS; replace S := hid hS; clear hS)
       | (refine (OB2.out _ (HB.out.below S.out.bel)).mono ?_; rintro en w' ⟨sw, cw, rfl, hS⟩; replace hS := S.out.call hS; simp only [List.cons_append, List.nil_append] at hS; replace S := hid hS; clear hS; have M2 := True.intro))
    | (go_at_call 13; first
       | ((have M3 := M2); first
          | (refine (D.out.par _ _ (by (first | exact S.out.rb 0 rfl (by assumption) | exact S.out.rb 1 rfl (by assumption) | exact S.out.rb 2 rfl (by assumption) | exact S.out.rb 3 rfl (by assumption) | exact S.out.rb 4 rfl (by assumption) | exact S.out.rb 5 rfl (by assumption) | exact S.out.rb 6 rfl (by assumption))) (TB.out.below S.out.bel)).mono ?_; clear C; have C := D; have L5 := D.out.l1; have L6 := D.out.l2; rintro en w' ⟨so, co, sx, cx, rfl, hS⟩; replace hS := S.out.call hS; simp only [List.cons_append, List.nil_append] at hS; replace S := hid hS; clear hS)
          | (refine (PB.out _ _ (by (first | exact S.out.rb 0 rfl (by assumption) | exact S.out.rb 1 rfl (by assumption) | exact S.out.rb 2 rfl (by assumption) | exact S.out.rb 3 rfl (by assumption) | exact S.out.rb 4 rfl (by assumption) | exact S.out.rb 5 rfl (by assumption) | exact S.out.rb 6 rfl (by assumption))) (TB.out.below S.out.bel)).mono ?_; rintro en w' ⟨rfl, hb⟩; replace S := hid (S.out.keep hb); clear hb))
       | (refine (C.out.par _ _ (by (first | exact S.out.rb 0 rfl (by assumption) | exact S.out.rb 1 rfl (by assumption) | exact S.out.rb 2 rfl (by assumption) | exact S.out.rb 3 rfl (by assumption) | exact S.out.rb 4 rfl (by assumption) | exact S.out.rb 5 rfl (by assumption) | exact S.out.rb 6 rfl (by assumption))) (TB.out.below S.out.bel)).mono ?_; rintro en w' ⟨so, co, sx, cx, rfl, hS⟩; replace S := hid (S.out.sub (List.sublist_cons_self _ _)); replace hS := S.out.call hS; simp only [List.cons_append, List.nil_append] at hS; replace S := hid hS; clear hS))
    | (go_at_call 16; refine (SA.out _ _ _ (by (first | exact S.out.rb 0 rfl (by assumption) | exact S.out.rb 1 rfl (by assumption) | exact S.out.rb 2 rfl (by assumption) | exact S.out.rb 3 rfl (by assumption) | exact S.out.rb 4 rfl (by assumption) | exact S.out.rb 5 rfl (by assumption) | exact S.out.rb 6 rfl (by assumption))) (HB.out.below S.out.bel)).mono ?_; rintro en w'' ⟨rfl, rfl⟩)
    | (go_at_call 15; first
       | ((have M3 := M2); refine (SZ.out _).mono ?_; rintro en w' ⟨rfl, hb⟩; replace S := hid (S.out.keep hb); clear hb)
       | (refine (C.out.same _ _ _ _ _ (by first | exact C.out.pin _ _ _ rfl rfl (S.out.rb 1 rfl C.out.yo) (S.out.rb 0 rfl C.out.yx) | exact C.out.pin _ _ _ rfl rfl (S.out.rb 2 rfl C.out.yo) (S.out.rb 1 rfl C.out.yx) | exact C.out.pin _ _ _ rfl rfl (S.out.rb 3 rfl C.out.yo) (S.out.rb 2 rfl C.out.yx) | exact C.out.pin _ _ _ rfl rfl (S.out.rb 4 rfl C.out.yo) (S.out.rb 3 rfl C.out.yx) | exact C.out.pin _ _ _ rfl rfl (S.out.rb 5 rfl C.out.yo) (S.out.rb 4 rfl C.out.yx) | exact C.out.pin _ _ _ rfl rfl (S.out.rb 6 rfl C.out.yo) (S.out.rb 5 rfl C.out.yx) | exact C.out.pin _ _ _ rfl rfl (S.out.rb 7 rfl C.out.yo) (S.out.rb 6 rfl C.out.yx) | exact C.out.pin _ _ _ rfl rfl (S.out.rb 8 rfl C.out.yo) (S.out.rb 7 rfl C.out.yx)) (by first | exact C.out.pin _ _ _ rfl rfl (S.out.rb 1 rfl C.out.yo) (S.out.rb 0 rfl C.out.yx) | exact C.out.pin _ _ _ rfl rfl (S.out.rb 2 rfl C.out.yo) (S.out.rb 1 rfl C.out.yx) | exact C.out.pin _ _ _ rfl rfl (S.out.rb 3 rfl C.out.yo) (S.out.rb 2 rfl C.out.yx) | exact C.out.pin _ _ _ rfl rfl (S.out.rb 4 rfl C.out.yo) (S.out.rb 3 rfl C.out.yx) | exact C.out.pin _ _ _ rfl rfl (S.out.rb 5 rfl C.out.yo) (S.out.rb 4 rfl C.out.yx) | exact C.out.pin _ _ _ rfl rfl (S.out.rb 6 rfl C.out.yo) (S.out.rb 5 rfl C.out.yx) | exact C.out.pin _ _ _ rfl rfl (S.out.rb 7 rfl C.out.yo) (S.out.rb 6 rfl C.out.yx) | exact C.out.pin _ _ _ rfl rfl (S.out.rb 8 rfl C.out.yo) (S.out.rb 7 rfl C.out.yx))).mono ?_; rintro en w' ⟨rfl, hb⟩; replace S := hid (S.out.keep hb); clear hb))
    | (go_at_call 20; refine (C.out.rgt _ _ _ (by first | exact C.out.pin _ _ _ rfl rfl (S.out.rb 1 rfl C.out.yo) (S.out.rb 0 rfl C.out.yx) | exact C.out.pin _ _ _ rfl rfl (S.out.rb 2 rfl C.out.yo) (S.out.rb 1 rfl C.out.yx) | exact C.out.pin _ _ _ rfl rfl (S.out.rb 3 rfl C.out.yo) (S.out.rb 2 rfl C.out.yx) | exact C.out.pin _ _ _ rfl rfl (S.out.rb 4 rfl C.out.yo) (S.out.rb 3 rfl C.out.yx) | exact C.out.pin _ _ _ rfl rfl (S.out.rb 5 rfl C.out.yo) (S.out.rb 4 rfl C.out.yx) | exact C.out.pin _ _ _ rfl rfl (S.out.rb 6 rfl C.out.yo) (S.out.rb 5 rfl C.out.yx) | exact C.out.pin _ _ _ rfl rfl (S.out.rb 7 rfl C.out.yo) (S.out.rb 6 rfl C.out.yx) | exact C.out.pin _ _ _ rfl rfl (S.out.rb 8 rfl C.out.yo) (S.out.rb 7 rfl C.out.yx)) (TB.out.below S.out.bel)).mono ?_; rintro en w' ⟨rfl, hb⟩; replace S := hid (S.out.keep hb); clear hb))
  all_goals
    go_ret
    exact P.out _ _ rfl S.out.nil
  )
end Go.Proofs.YtaecfcaeopmiaaaDoor
