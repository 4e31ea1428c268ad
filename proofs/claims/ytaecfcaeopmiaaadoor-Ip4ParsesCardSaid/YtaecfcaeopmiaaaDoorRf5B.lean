/-
  mosaicref05: get, own, Part, sum, Sealed, Reserved, HeadOf, address.
-/
import Derived.Test.YtaecfcaeopmiaaaDoorRf5A
import Derived.Test.YtaecfcaeopmiaaaDoorZpd
import Derived.Test.YtaecfcaeopmiaaaDoorIp4D
import Derived.Test.YtaecfcaeopmiaaaDoorHlp
namespace Go.Proofs.YtaecfcaeopmiaaaDoor
open Go.RowKit

/-- two bytes as a number -/
theorem r5get_any (bv : Value) (l : List Int) (k : Nat) (w : World) (hb : Rb w bv l) (hk : k + 2 ≤ l.length) : Calls Tryd.prog 36 #[bv, .int .i64 k] w fun en w' => en = .returned (.int .i64 (wordL l k)) ∧ Drw w w' := by
  have hx := hb.byt.bd k
  have hy := hb.byt.bd (k + 1)
  have e : Hid (wordL l k = 256 * gt l k + gt l (k + 1)) := hid rfl
  obtain ⟨a, cap, rfl, hc, hm, hz⟩ := hb.open
  unfold maxLen at hm
  clear hb
  rcases hz with h0 | ⟨b, off, rfl, hcell⟩
  · omega
  have c0 := hcell k (by omega)
  have c1 := hcell (k + 1) (by omega)
  clear hcell
  generalize gt l k = x at *
  generalize gt l (k + 1) = y at *
  have E := e
  generalize wordL l k = r at *
  have s1 : IntKind.i64.wrap ((k : Int) + 1) = (k : Int) + 1 := IntWalk.i64_in _ (by omega)
  go_enter Tryd.func36, Tryd.ntmps36
  go_wp2_with fail
  go_quiet (fail)
  go_wp2
  go_ret
  exact ⟨by rw [E.out]; rfl, ⟨_, rfl⟩⟩
/-- the document's copy -/
theorem r5own_any (v : Value) (l : List Int) (w : World) (h : Rb w v l) (hl : l.length ≤ 140737488355328) : Calls Tryd.prog 62 #[v] w (Own1 l l.length w) := by
  have HB := hid h
  have hl' := hl
  have P := hid (fun w' a c (h2 : Sp w w' [.row (.slice a l.length c) 5 1 l.length (bts l)]) => show Own1 l l.length w (.returned (.slice a l.length c)) w' from ⟨a, c, rfl, h2⟩)
  obtain ⟨ad, cd, rfl, _, hmd, _⟩ := h.open
  have S : Hid (Sp w w [.row (.slice none 0 0) 5 1 0 (bts [])]) := hid ((Sp.refl w).nilrow 5 1)
  have w' := w
  clear h
  go_enter Tryd.func62, Tryd.ntmps62
  go_wp2_with (first
    | go_skip
    | ((with_reducible show wpList _ _ _ _ _ _); (at_builtin; refine wpList_grow (by rfl) _ _ rfl S.out 0 rfl rfl _ l rfl (HB.out.below S.out.bel) l.length (by simp) hl' ?_; rintro ca cc w' hS; simp only [List.set_cons_zero, List.nil_append] at hS; replace S := hid hS; clear hS)))
  go_ret
  exact P.out _ _ _ S.out
theorem wsum_tk {l : List Int} {k : Nat} (h : k < l.length) : wsum (l.take (k + 1)) = wsum (l.take k) + if k % 2 = 0 then 256 * gt l k else gt l k := by
  rw [take_snoc h, wsum_snoc, show (l.take k).length = k by simp; omega]
theorem wsum_tk2 {l : List Int} {k : Nat} (h : k + 1 < l.length) (he : k % 2 = 0) : wsum (l.take (k + 2)) = wsum (l.take k) + (256 * gt l k + gt l (k + 1)) := by
  rw [wsum_tk h, wsum_tk (by omega), if_pos he, if_neg (by omega)]
  omega
def RP5Rel (w0 : World) (l : List Int) (n t : Value) (wr : World) : Prop := ∃ k : Nat, k ≤ l.length ∧ k % 2 = 0 ∧ t = .int .i64 k ∧ n = .int .i64 (foldL (wsum (l.take k))) ∧ Same w0 wr
set_option maxHeartbeats 1600000 in
theorem r5part_any (bv : Value) (l : List Int) (w : World) (h : Rb w bv l) (he : l.length % 2 = 0) (hl : l.length ≤ 65535) : Calls Tryd.prog 73 #[bv] w fun en w' => en = .returned (.int .i64 (partL l)) ∧ Same w w' := by
  have HB := hid h
  obtain ⟨a, cap, rfl, hc, hm, hz⟩ := h.open
  unfold maxLen at hm
  have HZ := hid hz
  clear h hz
  go_enter Tryd.func73, Tryd.ntmps73
  go_wp2_with fail
  go_loopw [3, 4] (fun n t wr => RP5Rel w l n t wr) (fun _ t _ => l.length - (intOf t).toNat)
  case atStart => exact ⟨0, Nat.zero_le _, rfl, rfl, by simp [wsum, foldL], Same.refl _⟩
  case round =>
    obtain ⟨k, hk, hk2, rfl, rfl, hS⟩ := hrel
    have SS := hid hS
    clear hS
    have hw0 := (wsum_bd (HB.out.byt.take k)).1
    have hf := foldL_bd hw0
    by_cases hlt : k + 1 < l.length
    · have HR := hid (HB.out.below (SS.out.below _))
      obtain ⟨a', cap', hv, _, _, hz⟩ := HR.out.open
      simp only [Value.slice.injEq] at hv
      obtain ⟨rfl, -, rfl⟩ := hv
      rcases hz with h0 | ⟨b, off, rfl, hcell⟩
      · omega
      have ck := hcell k (by omega)
      have ck1 := hcell (k + 1) hlt
      have hx := HB.out.byt.bd k
      have hy := HB.out.byt.bd (k + 1)
      have hwt := hid (wsum_tk2 hlt hk2)
      generalize gt l k = x at *
      generalize gt l (k + 1) = y at *
      generalize wsum (l.take k) = n at *
      clear hcell HR
      have FS := hid (show foldL (foldL n + (256 * x + y)) = foldL (wsum (l.take (k + 2))) by rw [hwt.out, foldL_add hw0 (by omega)])
      clear hwt
      generalize foldL n = f at *
      have s1 : IntKind.i64.wrap ((k : Int) + 1) = (k : Int) + 1 := IntWalk.i64_in _ (by omega)
      have s2 : IntKind.i64.wrap (256 * x) = 256 * x := IntWalk.i64_in _ (by omega)
      have s3 : IntKind.i64.wrap (f + 256 * x) = f + 256 * x := IntWalk.i64_in _ (by omega)
      have s4 : IntKind.i64.wrap (f + 256 * x + y) = f + 256 * x + y := IntWalk.i64_in _ (by omega)
      have i0 : k < l.length := by omega
      have i1 : (k : Int) < (l.length : Int) := by omega
      have i2 : (k : Int) + 1 < (l.length : Int) := by omega
      by_cases h6 : 65535 < f + 256 * x + y
      · have F2 := hid (show f + 256 * x + y - 65535 = foldL (wsum (l.take (k + 2))) by rw [← FS.out]; unfold foldL; rw [if_neg (by omega)]; omega)
        go_wp2_with fail
        go_quiet (fail)
        go_wp2_with fail
        go_roundw
        case rel => exact ⟨k + 2, by omega, by omega, by go_num, by rw [F2.out], SS.out.trans (Same.drewN _ _)⟩
        case measure => simp [intOf]; omega
      · have F2 := hid (show f + 256 * x + y = foldL (wsum (l.take (k + 2))) by rw [← FS.out, foldL_small (by omega) (by omega)]; omega)
        go_wp2_with fail
        go_quiet (fail)
        go_wp2_with fail
        go_roundw
        case rel => exact ⟨k + 2, by omega, by omega, by go_num, by rw [F2.out], SS.out.trans (Same.drewN _ _)⟩
        case measure => simp [intOf]; omega
    · have hkl : k = l.length := by omega
      subst hkl
      have e := hid (show foldL (wsum (l.take l.length)) = partL l by rw [List.take_length]; rfl)
      generalize foldL (wsum (l.take l.length)) = n at *
      go_wp2_with fail
      go_ret
      exact ⟨by rw [← e.out]; rfl, SS.out⟩
theorem r5sum_any (bv : Value) (m : List Int) (w : World) (h : Rb w bv m) (h12 : 12 ≤ m.length) (he : m.length % 2 = 0) (hl : m.length ≤ 65535) : Calls Tryd.prog 60 #[bv] w (APost w (.int .i64 (65535 - partL ((m.set 10 0).set 11 0)))) := by
  have HB := hid h
  have YB := h.byt
  have YZ : Byt ((m.set 10 0).set 11 0) := (YB.set 10 (by decide) (by decide)).set 11 (by decide) (by decide)
  have PT := hid (fun W v (hv : Rb W v ((m.set 10 0).set 11 0)) => r5part_any v _ W hv (by simp; exact he) (by simp; exact hl))
  have hp := partL_bd YZ
  generalize partL ((m.set 10 0).set 11 0) = p at *
  have P := hid (fun w' (h2 : Sp w w' []) => show APost w (.int .i64 (65535 - p)) (.returned (.int .i64 (65535 - p))) w' from ⟨rfl, h2.bel⟩)
  obtain ⟨ad, cd, rfl, _, hmd, _⟩ := h.open
  have S : Hid (Sp w w [.row (.slice none 0 0) 5 1 0 (bts [])]) := hid ((Sp.refl w).nilrow 5 1)
  have hl' : m.length ≤ 140737488355328 := by omega
  have hn0 : 0 < m.length := by omega
  have w' := w
  clear h
  go_enter Tryd.func60, Tryd.ntmps60
  go_upto_region 3 with (first
    | go_skip
    | ((with_reducible show wpList _ _ _ _ _ _); (at_builtin; refine wpList_grow (by rfl) _ _ rfl S.out 0 rfl rfl _ m rfl (HB.out.below S.out.bel) m.length (by simp) hl' ?_; rintro ca cc w' hS; simp only [List.set_cons_zero, List.nil_append] at hS; replace S := hid hS; clear hS)))
  obtain ⟨g1, c1, hv⟩ := S.out.rowopen 0 rfl hn0
  simp only [Value.slice.injEq, true_and] at hv
  obtain ⟨rfl, rfl⟩ := hv
  go_wp2_with (first
    | go_skip
    | ((with_reducible show wpList _ _ _ _ _ _); ((with_reducible show wpList _ _ _ (⟨_, .store _ _ _, _, _, _, _⟩ :: _) _ _); refine wpList_put_row (by rfl) _ _ rfl rfl S.out _ _ rfl _ rfl 0 _ _ _ rfl (by omega) ?_; intro w' hS; simp only [List.set] at hS; replace S := hid hS; clear hS))
    | (go_at_call 73; refine (PT.out _ _ (S.out.rb 0 rfl YZ)).mono ?_; rintro en w' ⟨rfl, hS⟩; replace S := hid (S.out.same hS); clear hS))
  go_ret
  exact P.out _ S.out.nil
theorem rsealed_any (bv : Value) (m : List Int) (w : World) (h : Rb w bv m) (h12 : 12 ≤ m.length) (he : m.length % 2 = 0) (hl : m.length ≤ 65535) : Calls Tryd.prog 37 #[bv] w (APost w (.bool (chk4 m))) := by
  have HB := hid h
  have SU := hid (fun W v (hv : Rb W v m) => r5sum_any v m W hv h12 he hl)
  have GE := hid (fun W v (hv : Rb W v m) => (show Calls Tryd.prog 36 #[v, .int .i64 10] W _ from r5get_any v m 10 W hv (by omega)))
  have hc : Hid (chk4 m = decide (wordL m 10 = 65535 - partL ((m.set 10 0).set 11 0))) := hid rfl
  generalize chk4 m = c at *
  generalize wordL m 10 = x at *
  generalize 65535 - partL ((m.set 10 0).set 11 0) = y at *
  have E := hid (show (x == y) = c by rw [hc.out]; exact Bool.beq_eq_decide_eq x y)
  have P := hid (fun en w' b (h1 : en = .returned (.bool b)) (hb : b = c) (h2 : Sp w w' []) => show APost w (.bool c) en w' from ⟨by rw [h1, hb], h2.bel⟩)
  obtain ⟨ad, cd, rfl, _, hmd, _⟩ := h.open
  have S : Hid (Sp w w []) := hid (Sp.refl w)
  have w' := w
  clear h hc
  go_enter Tryd.func37, Tryd.ntmps37
  go_wp2_with (first
    | go_skip
    | (go_at_call 36; refine (GE.out _ _ (HB.out.below S.out.bel)).mono ?_; rintro en w' ⟨rfl, hd⟩; replace S := hid (S.out.keep (hd.below _)); clear hd)
    | (go_at_call 60; refine (SU.out _ _ (HB.out.below S.out.bel)).mono ?_; rintro en w' ⟨rfl, hb⟩; replace S := hid (S.out.keep hb); clear hb))
  go_ret
  exact P.out _ _ _ rfl E.out S.out.nil
theorem rreserved_any (bv : Value) (l : List Int) (w : World) (h : Rb w bv l) (h6 : 20 ≤ l.length) : Calls Tryd.prog 39 #[bv] w fun en w' => en = .returned (.bool (decide (32768 ≤ wordL l 6))) ∧ w = w' := by
  have y6 := h.byt.bd 6
  have y7 := h.byt.bd 7
  have E := hid (show decide (128 ≤ gt l 6) = decide (32768 ≤ wordL l 6) by
    have : wordL l 6 = 256 * gt l 6 + gt l 7 := rfl
    rw [this]
    by_cases h : 128 ≤ gt l 6
    · rw [decide_eq_true h, decide_eq_true (by omega)]
    · rw [decide_eq_false h, decide_eq_false (by omega)])
  generalize decide (32768 ≤ wordL l 6) = r at *
  obtain ⟨a, cap, rfl, hc, hm, hz⟩ := h.open
  rcases hz with h0 | ⟨b, off, rfl, hcell⟩
  · omega
  have c6 := hcell 6 (by omega)
  have i6 : (6 : Int) < (l.length : Int) := by omega
  have j6 : 6 < l.length := by omega
  clear hcell
  generalize gt l 6 = x at *
  generalize hr2 : decide (128 ≤ x) = r2 at *
  go_enter Tryd.func39, Tryd.ntmps39
  go_wp2_with fail
  go_ret
  exact ⟨by rw [← E.out]; rfl, rfl⟩
/-- what HeadOf tells -/
def hE4 (l : List Int) : Int := if l.length < 20 then 20 else if gt l 0 / 16 ≠ 4 ∨ head4 l < 20 then 50 else if l.length < head4 l then 20 else 0
def HdPost (l : List Int) (w : World) (en : Ending) (w' : World) : Prop := en = .returned (.tuple #[.int .i64 (if hE4 l = 0 then (head4 l : Int) else 0), .int .i64 (hE4 l)]) ∧ w = w'
theorem rheadOf_any (bv : Value) (l : List Int) (w : World) (h : Rb w bv l) (hl : l.length ≤ 140737488355328) : Calls Tryd.prog 35 #[bv] w (HdPost l w) := by
  obtain ⟨h60, hh⟩ := head4_bd h.byt
  have y0 := h.byt.bd 0
  obtain ⟨a, cap, rfl, hc, hm, hz⟩ := h.open
  unfold maxLen at hm
  have P := hid (fun k e (he : hE4 l = e) (hk : k = if e = 0 then (head4 l : Int) else 0) => (show HdPost l w (.returned (.tuple #[.int .i64 k, .int .i64 e])) w from ⟨by rw [he, hk], rfl⟩))
  by_cases h20 : l.length < 20
  · have E := hid (show hE4 l = 20 by unfold hE4; rw [if_pos h20])
    have d20 : decide ((l.length : Int) < 20) = true := by simp; omega
    clear hz hh
    go_enter Tryd.func35, Tryd.ntmps35
    go_wp2_with fail
    go_ret2
    exact P.out 0 20 E.out rfl
  · have d20 : decide ((l.length : Int) < 20) = false := by simp; omega
    have E0 := hid (show hE4 l = if gt l 0 / 16 ≠ 4 ∨ head4 l < 20 then 50 else if l.length < head4 l then 20 else 0 by unfold hE4; rw [if_neg h20])
    rcases hz with h0 | ⟨b, off, rfl, hcell⟩
    · omega
    have c0 := hcell 0 (by omega)
    rw [Nat.add_zero] at c0
    have i0 : 0 < l.length := by omega
    have i0' : (0 : Int) < (l.length : Int) := by omega
    clear hcell
    generalize gt l 0 = x at *
    generalize head4 l = hd at *
    have HH := hid hh
    by_cases h4 : x / 16 ≠ 4 ∨ hd < 20
    · have E := hid (show hE4 l = 50 by rw [E0.out, if_pos h4])
      clear E0
      by_cases hx : x / 16 = 4
      · have d1 : (x / 16 != 4) = false := by simp [hx]
        have d2 : decide (x % 16 * 4 < 20) = true := by simp; omega
        clear hx h4
        go_enter Tryd.func35, Tryd.ntmps35
        go_wp2_with fail
        go_ret2
        exact P.out 0 50 E.out rfl
      · have d1 : (x / 16 != 4) = true := by simp [hx]
        clear hx h4
        go_enter Tryd.func35, Tryd.ntmps35
        go_wp2_with fail
        go_ret2
        exact P.out 0 50 E.out rfl
    · have d1 : (x / 16 != 4) = false := by simp; omega
      have d2 : decide (x % 16 * 4 < 20) = false := by simp; omega
      by_cases hlt : l.length < hd
      · have E := hid (show hE4 l = 20 by rw [E0.out, if_neg h4, if_pos hlt])
        have d3 : decide ((l.length : Int) < x % 16 * 4) = true := by simp; omega
        clear E0 h4
        go_enter Tryd.func35, Tryd.ntmps35
        go_wp2_with fail
        go_ret2
        exact P.out 0 20 E.out rfl
      · have E := hid (show hE4 l = 0 by rw [E0.out, if_neg h4, if_neg hlt])
        have d3 : decide ((l.length : Int) < x % 16 * 4) = false := by simp; omega
        clear E0 h4
        go_enter Tryd.func35, Tryd.ntmps35
        go_wp2_with fail
        go_ret2
        exact P.out _ 0 E.out (by rw [if_pos rfl]; exact HH.out.symm)
set_option maxHeartbeats 800000 in
set_option maxRecDepth 20000 in
theorem r5addr_any (v : Value) (l : List Int) (w : World) (h : Rb w v l) (h4 : 4 ≤ l.length) : Calls Tryd.prog 61 #[v] w (APost w (.agg (addrC 4 (zp l 4)))) := by
  have HB := hid h
  have Z0 : (zp l 0).length = 16 := zp_len (by omega) (by decide)
  obtain ⟨ad, cd, rfl, _, hmd, hz⟩ := h.open
  have P := hid (fun w' (h2 : Sp w w' []) => show APost w (.agg (addrC 4 (zp l 4))) (.returned (.agg (addrC 4 (zp l 4)))) w' from ⟨rfl, h2.bel⟩)
  obtain ⟨bk, off, rfl, _⟩ := hz.resolve_left (by omega)
  have S : Hid (Sp w (w.alloc (.cells #[.int .i64 0, .int .u8 0, .int .u8 0, .int .u8 0, .int .u8 0, .int .u8 0, .int .u8 0, .int .u8 0, .int .u8 0, .int .u8 0, .int .u8 0, .int .u8 0, .int .u8 0, .int .u8 0, .int .u8 0, .int .u8 0, .int .u8 0] 27)) [.blk w.heap.size (addrC 0 (zp l 0)) 27]) := hid (Sp.in1 ..)
  clear h hz
  go_enter Tryd.func61, Tryd.ntmps61
  go_upto_region 1 with fail
  generalize w.alloc (.cells #[.int .i64 0, .int .u8 0, .int .u8 0, .int .u8 0, .int .u8 0, .int .u8 0, .int .u8 0, .int .u8 0, .int .u8 0, .int .u8 0, .int .u8 0, .int .u8 0, .int .u8 0, .int .u8 0, .int .u8 0, .int .u8 0, .int .u8 0] 27) = w' at *
  generalize w.heap.size = b at *
  go_upto_region 2 with (first
    | go_skip
    | (((with_reducible show wpList _ _ _ (_ :: _) _ (World.alloc _ _)); refine wpList_world fun w' hw2 => ?_; replace S := hid (S.out.alloc hw2); clear hw2))
    | ((with_reducible show wpList _ _ _ _ _ _); ((with_reducible show wpList _ _ _ (⟨_, .store _ _ _, _, _, _, _⟩ :: _) _ _); refine wpList_putS (by rfl) _ _ _ rfl rfl S.out _ (addrC 4 (zp l 0)) rfl rfl 0 27 _ rfl (by rw [addr_info]; exact congrArg some (addrC_size16 Z0).symm) (by rfl) (addrC_ones _ _) ?_; intro w' hS; simp only [List.set] at hS; replace S := hid hS; clear hS)))
  (try simp only [Act.put, List.setIfInBounds_toArray, List.set_cons_zero, List.set_cons_succ])
  generalize (World.heap _).size = b3 at S ⊢
  go_wp2_with fail
  go_loopw [4] (fun t wr => ∃ k : Nat, k ≤ 4 ∧ t = .int .i64 (k : Int) ∧ Sp w wr [.blk b3 (addrC 4 (zp l k)) 27, .blk b (addrC 0 (zp l 0)) 27]) (fun t _ => (4 - intOf t).toNat)
  case atStart => exact ⟨0, by omega, rfl, S.out⟩
  case round =>
    obtain ⟨k, hk, rfl, hS⟩ := hrel
    replace S := hid hS
    clear hS w'
    have w' := wr
    have zk : (zp l k).length = 16 := zp_len (by omega) (by omega)
    by_cases hlt : k < 4
    · have F1 := hid (zp_step (bs := l) (k := k) (by omega) (by omega))
      have y3 : IntKind.i64.wrap ((k : Int) + 1) = ((k + 1 : Nat) : Int) := by rw [IntWalk.i64_in _ (by omega)]; omega
      have d1 : decide ((k : Int) < 4) = true := by simp; omega
      have h16 : (k : Int) < 16 := by omega
      have i0 : k < l.length := by omega
      have i1 : (k : Int) < (l.length : Int) := by omega
      go_wp2_with (first
        | go_skip
        | ((with_reducible show wpList _ _ _ _ _ _); first
            | ((with_reducible show wpList _ _ _ (⟨_, .load _ _, _, _, _, _⟩ :: _) _ _); refine wpList_get_rb (by rfl) _ rfl (HB.out.below S.out.bel) k _ rfl rfl i0 ?_)
            | ((with_reducible show wpList _ _ _ (⟨_, .store _ _ _, _, _, _, _⟩ :: _) _ _); refine wpList_put_zb (by rfl) _ _ rfl rfl S.out _ k rfl _ rfl 0 _ _ rfl (by omega) ?_; intro w' hS; simp only [List.set] at hS; replace S := hid hS; clear hS))
        )
      go_roundw
      case rel =>
        refine ⟨k + 1, by omega, ?_, by have := S.out; simp only [F1.out] at this; exact this⟩
        first | rfl | (simp; done)
      case measure => simp [intOf]; omega
    · obtain rfl : k = 4 := by omega
      have d1 : decide (((4 : Nat) : Int) < 4) = false := by decide
      go_wp2_with (first
        | go_skip
        | ((with_reducible show wpList _ _ _ _ _ _); first
            | ((with_reducible show wpList _ _ _ (⟨_, .load 27 _, _, _, _, _⟩ :: _) _ _); refine wpList_getS (by rfl) _ _ rfl S.out _ rfl 0 _ _ rfl _ (by rfl) Tryd.underlying27 (by rw [addr_info]; exact congrArg some (addrC_size16 zk).symm) ?_)
            | ((with_reducible show wpList _ _ _ (⟨_, .store _ _ _, _, _, _, _⟩ :: _) _ _); refine wpList_putS (by rfl) _ _ _ rfl rfl S.out _ (addrC 4 (zp l 4)) rfl rfl 1 27 _ rfl (by rw [addr_info]; exact congrArg some (addrC_size16 zk).symm) (by simp [addrC, bts_length, zk, Z0]) (addrC_ones _ _) ?_; intro w' hS; simp only [List.set] at hS; replace S := hid hS; clear hS)))
      refine post_addr Tryd.results61 rfl _ 4 (zp l 4) rfl (S.out.heap 1 rfl) zk ?_
      exact P.out _ S.out.nil
end Go.Proofs.YtaecfcaeopmiaaaDoor
