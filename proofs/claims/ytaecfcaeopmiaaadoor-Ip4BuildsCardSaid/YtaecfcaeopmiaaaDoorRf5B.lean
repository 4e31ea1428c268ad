/-
  mosaicref05: get, own, Part, sum, Sealed, Reserved, HeadOf, address.
-/
import Derived.Test.YtaecfcaeopmiaaaDoorRf5A
import Derived.Test.YtaecfcaeopmiaaaDoorZpd
import Derived.Test.YtaecfcaeopmiaaaDoorIp4D
import Derived.Test.YtaecfcaeopmiaaaDoorHlp
import Derived.Test.YtaecfcaeopmiaaaDoorBBx
namespace Go.Proofs.YtaecfcaeopmiaaaDoor
open Go.RowKit

/-- two bytes as a number -/
theorem r5get_any (bv : Value) (l : List Int) (k : Nat) (w : World) (hb : Rb w bv l) (hk : k + 2 ≤ l.length) : Calls Tryd.prog 36 #[bv, .int .i64 k] w fun en w' => en = .returned (.int .i64 (wordL l k)) ∧ Drw w w' := by
  have hx := hb.byt.bd k
  have hy := hb.byt.bd (k + 1)
  have e : Hid (wordL l k = 256 * gt l k + gt l (k + 1)) := hid rfl
  obtain ⟨a, cap, rfl, hc, hm, hz⟩ := hb.open
  unfold maxLen at hm
  clear hb
  rcases hz with h0 | ⟨b, off, rfl, hcell⟩
  · omega
  have c0 := hcell k (by omega)
  have c1 := hcell (k + 1) (by omega)
  clear hcell
  generalize gt l k = x at *
  generalize gt l (k + 1) = y at *
  have E := e
  generalize wordL l k = r at *
  have s1 : IntKind.i64.wrap ((k : Int) + 1) = (k : Int) + 1 := IntWalk.i64_in _ (by omega)
  go_enter Tryd.func36, Tryd.ntmps36
  go_wp2_with fail
  go_quiet (fail)
  go_wp2
  go_ret
  exact ⟨by rw [E.out]; rfl, ⟨_, rfl⟩⟩
/-- the document's copy -/
theorem r5own_any (v : Value) (l : List Int) (w : World) (h : Rb w v l) (hl : l.length ≤ 140737488355328) : Calls Tryd.prog 62 #[v] w (Own1 l l.length w) := by
  have HB := hid h
  have hl' := hl
  have P := hid (fun w' a c (h2 : Sp w w' [.row (.slice a l.length c) 5 1 l.length (bts l)]) => show Own1 l l.length w (.returned (.slice a l.length c)) w' from ⟨a, c, rfl, h2⟩)
  obtain ⟨ad, cd, rfl, _, hmd, _⟩ := h.open
  have S : Hid (Sp w w [.row (.slice none 0 0) 5 1 0 (bts [])]) := hid ((Sp.refl w).nilrow 5 1)
  have w' := w
  clear h
  go_enter Tryd.func62, Tryd.ntmps62
  go_wp2_with (first
    | go_skip
    | ((with_reducible show wpList _ _ _ _ _ _); (at_builtin; refine wpList_grow (by rfl) _ _ rfl S.out 0 rfl rfl _ l rfl (HB.out.below S.out.bel) l.length (by simp) hl' ?_; rintro ca cc w' hS; simp only [List.set_cons_zero, List.nil_append] at hS; replace S := hid hS; clear hS)))
  go_ret
  exact P.out _ _ _ S.out
theorem wsum_tk {l : List Int} {k : Nat} (h : k < l.length) : wsum (l.take (k + 1)) = wsum (l.take k) + if k % 2 = 0 then 256 * gt l k else gt l k := by
  rw [take_snoc h, wsum_snoc, show (l.take k).length = k by simp; omega]
theorem wsum_tk2 {l : List Int} {k : Nat} (h : k + 1 < l.length) (he : k % 2 = 0) : wsum (l.take (k + 2)) = wsum (l.take k) + (256 * gt l k + gt l (k + 1)) := by
  rw [wsum_tk h, wsum_tk (by omega), if_pos he, if_neg (by omega)]
  omega
def RP5Rel (w0 : World) (l : List Int) (n t : Value) (wr : World) : Prop := ∃ k : Nat, k ≤ l.length ∧ k % 2 = 0 ∧ t = .int .i64 k ∧ n = .int .i64 (foldL (wsum (l.take k))) ∧ Same w0 wr
set_option maxHeartbeats 1600000 in
theorem r5part_any (bv : Value) (l : List Int) (w : World) (h : Rb w bv l) (he : l.length % 2 = 0) (hl : l.length ≤ 65535) : Calls Tryd.prog 73 #[bv] w fun en w' => en = .returned (.int .i64 (partL l)) ∧ Same w w' := by
  have HB := hid h
  obtain ⟨a, cap, rfl, hc, hm, hz⟩ := h.open
  unfold maxLen at hm
  have HZ := hid hz
  clear h hz
  go_enter Tryd.func73, Tryd.ntmps73
  go_wp2_with fail
  go_loopw [3, 4] (fun n t wr => RP5Rel w l n t wr) (fun _ t _ => l.length - (intOf t).toNat)
  case atStart => exact ⟨0, Nat.zero_le _, rfl, rfl, by simp [wsum, foldL], Same.refl _⟩
  case round =>
    obtain ⟨k, hk, hk2, rfl, rfl, hS⟩ := hrel
    have SS := hid hS
    clear hS
    have hw0 := (wsum_bd (HB.out.byt.take k)).1
    have hf := foldL_bd hw0
    by_cases hlt : k + 1 < l.length
    · have HR := hid (HB.out.below (SS.out.below _))
      obtain ⟨a', cap', hv, _, _, hz⟩ := HR.out.open
      simp only [Value.slice.injEq] at hv
      obtain ⟨rfl, -, rfl⟩ := hv
      rcases hz with h0 | ⟨b, off, rfl, hcell⟩
      · omega
      have ck := hcell k (by omega)
      have ck1 := hcell (k + 1) hlt
      have hx := HB.out.byt.bd k
      have hy := HB.out.byt.bd (k + 1)
      have hwt := hid (wsum_tk2 hlt hk2)
      generalize gt l k = x at *
      generalize gt l (k + 1) = y at *
      generalize wsum (l.take k) = n at *
      clear hcell HR
      have FS := hid (show foldL (foldL n + (256 * x + y)) = foldL (wsum (l.take (k + 2))) by rw [hwt.out, foldL_add hw0 (by omega)])
      clear hwt
      generalize foldL n = f at *
      have s1 : IntKind.i64.wrap ((k : Int) + 1) = (k : Int) + 1 := IntWalk.i64_in _ (by omega)
      have s2 : IntKind.i64.wrap (256 * x) = 256 * x := IntWalk.i64_in _ (by omega)
      have s3 : IntKind.i64.wrap (f + 256 * x) = f + 256 * x := IntWalk.i64_in _ (by omega)
      have s4 : IntKind.i64.wrap (f + 256 * x + y) = f + 256 * x + y := IntWalk.i64_in _ (by omega)
      have i0 : k < l.length := by omega
      have i1 : (k : Int) < (l.length : Int) := by omega
      have i2 : (k : Int) + 1 < (l.length : Int) := by omega
      by_cases h6 : 65535 < f + 256 * x + y
      · have F2 := hid (show f + 256 * x + y - 65535 = foldL (wsum (l.take (k + 2))) by rw [← FS.out]; unfold foldL; rw [if_neg (by omega)]; omega)
        go_wp2_with fail
        go_quiet (fail)
        go_wp2_with fail
        go_roundw
        case rel => exact ⟨k + 2, by omega, by omega, by go_num, by rw [F2.out], SS.out.trans (Same.drewN _ _)⟩
        case measure => simp [intOf]; omega
      · have F2 := hid (show f + 256 * x + y = foldL (wsum (l.take (k + 2))) by rw [← FS.out, foldL_small (by omega) (by omega)]; omega)
        go_wp2_with fail
        go_quiet (fail)
        go_wp2_with fail
        go_roundw
        case rel => exact ⟨k + 2, by omega, by omega, by go_num, by rw [F2.out], SS.out.trans (Same.drewN _ _)⟩
        case measure => simp [intOf]; omega
    · have hkl : k = l.length := by omega
      subst hkl
      have e := hid (show foldL (wsum (l.take l.length)) = partL l by rw [List.take_length]; rfl)
      generalize foldL (wsum (l.take l.length)) = n at *
      go_wp2_with fail
      go_ret
      exact ⟨by rw [← e.out]; rfl, SS.out⟩
theorem r5sum_any (bv : Value) (m : List Int) (w : World) (h : Rb w bv m) (h12 : 12 ≤ m.length) (he : m.length % 2 = 0) (hl : m.length ≤ 65535) : Calls Tryd.prog 60 #[bv] w (APost w (.int .i64 (65535 - partL ((m.set 10 0).set 11 0)))) := by
  have HB := hid h
  have YB := h.byt
  have YZ : Byt ((m.set 10 0).set 11 0) := (YB.set 10 (by decide) (by decide)).set 11 (by decide) (by decide)
  have PT := hid (fun W v (hv : Rb W v ((m.set 10 0).set 11 0)) => r5part_any v _ W hv (by simp; exact he) (by simp; exact hl))
  have hp := partL_bd YZ
  generalize partL ((m.set 10 0).set 11 0) = p at *
  have P := hid (fun w' (h2 : Sp w w' []) => show APost w (.int .i64 (65535 - p)) (.returned (.int .i64 (65535 - p))) w' from ⟨rfl, h2.bel⟩)
  obtain ⟨ad, cd, rfl, _, hmd, _⟩ := h.open
  have S : Hid (Sp w w [.row (.slice none 0 0) 5 1 0 (bts [])]) := hid ((Sp.refl w).nilrow 5 1)
  have hl' : m.length ≤ 140737488355328 := by omega
  have hn0 : 0 < m.length := by omega
  have w' := w
  clear h
  go_enter Tryd.func60, Tryd.ntmps60
  go_upto_region 3 with (first
    | go_skip
    | ((with_reducible show wpList _ _ _ _ _ _); (at_builtin; refine wpList_grow (by rfl) _ _ rfl S.out 0 rfl rfl _ m rfl (HB.out.below S.out.bel) m.length (by simp) hl' ?_; rintro ca cc w' hS; simp only [List.set_cons_zero, List.nil_append] at hS; replace S := hid hS; clear hS)))
  obtain ⟨g1, c1, hv⟩ := S.out.rowopen 0 rfl hn0
  simp only [Value.slice.injEq, true_and] at hv
  obtain ⟨rfl, rfl⟩ := hv
  go_wp2_with (first
    | go_skip
    | ((with_reducible show wpList _ _ _ _ _ _); ((with_reducible show wpList _ _ _ (⟨_, .store _ _ _, _, _, _, _⟩ :: _) _ _); refine wpList_put_row (by rfl) _ _ rfl rfl S.out _ _ rfl _ rfl 0 _ _ _ rfl (by omega) ?_; intro w' hS; simp only [List.set] at hS; replace S := hid hS; clear hS))
    | (go_at_call 73; refine (PT.out _ _ (S.out.rb 0 rfl YZ)).mono ?_; rintro en w' ⟨rfl, hS⟩; replace S := hid (S.out.same hS); clear hS))
  go_ret
  exact P.out _ S.out.nil
theorem rsealed_any (bv : Value) (m : List Int) (w : World) (h : Rb w bv m) (h12 : 12 ≤ m.length) (he : m.length % 2 = 0) (hl : m.length ≤ 65535) : Calls Tryd.prog 37 #[bv] w (APost w (.bool (chk4 m))) := by
  have HB := hid h
  have SU := hid (fun W v (hv : Rb W v m) => r5sum_any v m W hv h12 he hl)
  have GE := hid (fun W v (hv : Rb W v m) => (show Calls Tryd.prog 36 #[v, .int .i64 10] W _ from r5get_any v m 10 W hv (by omega)))
  have hc : Hid (chk4 m = decide (wordL m 10 = 65535 - partL ((m.set 10 0).set 11 0))) := hid rfl
  generalize chk4 m = c at *
  generalize wordL m 10 = x at *
  generalize 65535 - partL ((m.set 10 0).set 11 0) = y at *
  have E := hid (show (x == y) = c by rw [hc.out]; exact Bool.beq_eq_decide_eq x y)
  have P := hid (fun en w' b (h1 : en = .returned (.bool b)) (hb : b = c) (h2 : Sp w w' []) => show APost w (.bool c) en w' from ⟨by rw [h1, hb], h2.bel⟩)
  obtain ⟨ad, cd, rfl, _, hmd, _⟩ := h.open
  have S : Hid (Sp w w []) := hid (Sp.refl w)
  have w' := w
  clear h hc
  go_enter Tryd.func37, Tryd.ntmps37
  go_wp2_with (first
    | go_skip
    | (go_at_call 36; refine (GE.out _ _ (HB.out.below S.out.bel)).mono ?_; rintro en w' ⟨rfl, hd⟩; replace S := hid (S.out.keep (hd.below _)); clear hd)
    | (go_at_call 60; refine (SU.out _ _ (HB.out.below S.out.bel)).mono ?_; rintro en w' ⟨rfl, hb⟩; replace S := hid (S.out.keep hb); clear hb))
  go_ret
  exact P.out _ _ _ rfl E.out S.out.nil
theorem rreserved_any (bv : Value) (l : List Int) (w : World) (h : Rb w bv l) (h6 : 20 ≤ l.length) : Calls Tryd.prog 39 #[bv] w fun en w' => en = .returned (.bool (decide (32768 ≤ wordL l 6))) ∧ w = w' := by
  have y6 := h.byt.bd 6
  have y7 := h.byt.bd 7
  have E := hid (show decide (128 ≤ gt l 6) = decide (32768 ≤ wordL l 6) by
    have : wordL l 6 = 256 * gt l 6 + gt l 7 := rfl
    rw [this]
    by_cases h : 128 ≤ gt l 6
    · rw [decide_eq_true h, decide_eq_true (by omega)]
    · rw [decide_eq_false h, decide_eq_false (by omega)])
  generalize decide (32768 ≤ wordL l 6) = r at *
  obtain ⟨a, cap, rfl, hc, hm, hz⟩ := h.open
  rcases hz with h0 | ⟨b, off, rfl, hcell⟩
  · omega
  have c6 := hcell 6 (by omega)
  have i6 : (6 : Int) < (l.length : Int) := by omega
  have j6 : 6 < l.length := by omega
  clear hcell
  generalize gt l 6 = x at *
  generalize hr2 : decide (128 ≤ x) = r2 at *
  go_enter Tryd.func39, Tryd.ntmps39
  go_wp2_with fail
  go_ret
  exact ⟨by rw [← E.out]; rfl, rfl⟩
/-- what HeadOf tells -/
def hE4 (l : List Int) : Int := if l.length < 20 then 20 else if gt l 0 / 16 ≠ 4 ∨ head4 l < 20 then 50 else if l.length < head4 l then 20 else 0
def HdPost (l : List Int) (w : World) (en : Ending) (w' : World) : Prop := en = .returned (.tuple #[.int .i64 (if hE4 l = 0 then (head4 l : Int) else 0), .int .i64 (hE4 l)]) ∧ w = w'
theorem rheadOf_any (bv : Value) (l : List Int) (w : World) (h : Rb w bv l) (hl : l.length ≤ 140737488355328) : Calls Tryd.prog 35 #[bv] w (HdPost l w) := by
  obtain ⟨h60, hh⟩ := head4_bd h.byt
  have y0 := h.byt.bd 0
  obtain ⟨a, cap, rfl, hc, hm, hz⟩ := h.open
  unfold maxLen at hm
  have P := hid (fun k e (he : hE4 l = e) (hk : k = if e = 0 then (head4 l : Int) else 0) => (show HdPost l w (.returned (.tuple #[.int .i64 k, .int .i64 e])) w from ⟨by rw [he, hk], rfl⟩))
  by_cases h20 : l.length < 20
  · have E := hid (show hE4 l = 20 by unfold hE4; rw [if_pos h20])
    have d20 : decide ((l.length : Int) < 20) = true := by simp; omega
    clear hz hh
    go_enter Tryd.func35, Tryd.ntmps35
    go_wp2_with fail
    go_ret2
    exact P.out 0 20 E.out rfl
  · have d20 : decide ((l.length : Int) < 20) = false := by simp; omega
    have E0 := hid (show hE4 l = if gt l 0 / 16 ≠ 4 ∨ head4 l < 20 then 50 else if l.length < head4 l then 20 else 0 by unfold hE4; rw [if_neg h20])
    rcases hz with h0 | ⟨b, off, rfl, hcell⟩
    · omega
    have c0 := hcell 0 (by omega)
    rw [Nat.add_zero] at c0
    have i0 : 0 < l.length := by omega
    have i0' : (0 : Int) < (l.length : Int) := by omega
    clear hcell
    generalize gt l 0 = x at *
    generalize head4 l = hd at *
    have HH := hid hh
    by_cases h4 : x / 16 ≠ 4 ∨ hd < 20
    · have E := hid (show hE4 l = 50 by rw [E0.out, if_pos h4])
      clear E0
      by_cases hx : x / 16 = 4
      · have d1 : (x / 16 != 4) = false := by simp [hx]
        have d2 : decide (x % 16 * 4 < 20) = true := by simp; omega
        clear hx h4
        go_enter Tryd.func35, Tryd.ntmps35
        go_wp2_with fail
        go_ret2
        exact P.out 0 50 E.out rfl
      · have d1 : (x / 16 != 4) = true := by simp [hx]
        clear hx h4
        go_enter Tryd.func35, Tryd.ntmps35
        go_wp2_with fail
        go_ret2
        exact P.out 0 50 E.out rfl
    · have d1 : (x / 16 != 4) = false := by simp; omega
      have d2 : decide (x % 16 * 4 < 20) = false := by simp; omega
      by_cases hlt : l.length < hd
      · have E := hid (show hE4 l = 20 by rw [E0.out, if_neg h4, if_pos hlt])
        have d3 : decide ((l.length : Int) < x % 16 * 4) = true := by simp; omega
        clear E0 h4
        go_enter Tryd.func35, Tryd.ntmps35
        go_wp2_with fail
        go_ret2
        exact P.out 0 20 E.out rfl
      · have E := hid (show hE4 l = 0 by rw [E0.out, if_neg h4, if_neg hlt])
        have d3 : decide ((l.length : Int) < x % 16 * 4) = false := by simp; omega
        clear E0 h4
        go_enter Tryd.func35, Tryd.ntmps35
        go_wp2_with fail
        go_ret2
        exact P.out _ 0 E.out (by rw [if_pos rfl]; exact HH.out.symm)
set_option maxHeartbeats 800000 in
set_option maxRecDepth 20000 in
theorem r5addr_any (v : Value) (l : List Int) (w : World) (h : Rb w v l) (h4 : 4 ≤ l.length) : Calls Tryd.prog 61 #[v] w (APost w (.agg (addrC 4 (zp l 4)))) := by
  have HB := hid h
  have Z0 : (zp l 0).length = 16 := zp_len (by omega) (by decide)
  obtain ⟨ad, cd, rfl, _, hmd, hz⟩ := h.open
  have P := hid (fun w' (h2 : Sp w w' []) => show APost w (.agg (addrC 4 (zp l 4))) (.returned (.agg (addrC 4 (zp l 4)))) w' from ⟨rfl, h2.bel⟩)
  obtain ⟨bk, off, rfl, _⟩ := hz.resolve_left (by omega)
  have S : Hid (Sp w (w.alloc (.cells #[.int .i64 0, .int .u8 0, .int .u8 0, .int .u8 0, .int .u8 0, .int .u8 0, .int .u8 0, .int .u8 0, .int .u8 0, .int .u8 0, .int .u8 0, .int .u8 0, .int .u8 0, .int .u8 0, .int .u8 0, .int .u8 0, .int .u8 0] 27)) [.blk w.heap.size (addrC 0 (zp l 0)) 27]) := hid (Sp.in1 ..)
  clear h hz
  go_enter Tryd.func61, Tryd.ntmps61
  go_upto_region 1 with fail
  generalize w.alloc (.cells #[.int .i64 0, .int .u8 0, .int .u8 0, .int .u8 0, .int .u8 0, .int .u8 0, .int .u8 0, .int .u8 0, .int .u8 0, .int .u8 0, .int .u8 0, .int .u8 0, .int .u8 0, .int .u8 0, .int .u8 0, .int .u8 0, .int .u8 0] 27) = w' at *
  generalize w.heap.size = b at *
  go_upto_region 2 with (first
    | go_skip
    | (((with_reducible show wpList _ _ _ (_ :: _) _ (World.alloc _ _)); refine wpList_world fun w' hw2 => ?_; replace S := hid (S.out.alloc hw2); clear hw2))
    | ((with_reducible show wpList _ _ _ _ _ _); ((with_reducible show wpList _ _ _ (⟨_, .store _ _ _, _, _, _, _⟩ :: _) _ _); refine wpList_putS (by rfl) _ _ _ rfl rfl S.out _ (addrC 4 (zp l 0)) rfl rfl 0 27 _ rfl (by rw [addr_info]; exact congrArg some (addrC_size16 Z0).symm) (by rfl) (addrC_ones _ _) ?_; intro w' hS; simp only [List.set] at hS; replace S := hid hS; clear hS)))
  (try simp only [Act.put, List.setIfInBounds_toArray, List.set_cons_zero, List.set_cons_succ])
  generalize (World.heap _).size = b3 at S ⊢
  go_wp2_with fail
  go_loopw [4] (fun t wr => ∃ k : Nat, k ≤ 4 ∧ t = .int .i64 (k : Int) ∧ Sp w wr [.blk b3 (addrC 4 (zp l k)) 27, .blk b (addrC 0 (zp l 0)) 27]) (fun t _ => (4 - intOf t).toNat)
  case atStart => exact ⟨0, by omega, rfl, S.out⟩
  case round =>
    obtain ⟨k, hk, rfl, hS⟩ := hrel
    replace S := hid hS
    clear hS w'
    have w' := wr
    have zk : (zp l k).length = 16 := zp_len (by omega) (by omega)
    by_cases hlt : k < 4
    · have F1 := hid (zp_step (bs := l) (k := k) (by omega) (by omega))
      have y3 : IntKind.i64.wrap ((k : Int) + 1) = ((k + 1 : Nat) : Int) := by rw [IntWalk.i64_in _ (by omega)]; omega
      have d1 : decide ((k : Int) < 4) = true := by simp; omega
      have h16 : (k : Int) < 16 := by omega
      have i0 : k < l.length := by omega
      have i1 : (k : Int) < (l.length : Int) := by omega
      go_wp2_with (first
        | go_skip
        | ((with_reducible show wpList _ _ _ _ _ _); first
            | ((with_reducible show wpList _ _ _ (⟨_, .load _ _, _, _, _, _⟩ :: _) _ _); refine wpList_get_rb (by rfl) _ rfl (HB.out.below S.out.bel) k _ rfl rfl i0 ?_)
            | ((with_reducible show wpList _ _ _ (⟨_, .store _ _ _, _, _, _, _⟩ :: _) _ _); refine wpList_put_zb (by rfl) _ _ rfl rfl S.out _ k rfl _ rfl 0 _ _ rfl (by omega) ?_; intro w' hS; simp only [List.set] at hS; replace S := hid hS; clear hS))
        )
      go_roundw
      case rel =>
        refine ⟨k + 1, by omega, ?_, by have := S.out; simp only [F1.out] at this; exact this⟩
        first | rfl | (simp; done)
      case measure => simp [intOf]; omega
    · obtain rfl : k = 4 := by omega
      have d1 : decide (((4 : Nat) : Int) < 4) = false := by decide
      go_wp2_with (first
        | go_skip
        | ((with_reducible show wpList _ _ _ _ _ _); first
            | ((with_reducible show wpList _ _ _ (⟨_, .load 27 _, _, _, _, _⟩ :: _) _ _); refine wpList_getS (by rfl) _ _ rfl S.out _ rfl 0 _ _ rfl _ (by rfl) Tryd.underlying27 (by rw [addr_info]; exact congrArg some (addrC_size16 zk).symm) ?_)
            | ((with_reducible show wpList _ _ _ (⟨_, .store _ _ _, _, _, _, _⟩ :: _) _ _); refine wpList_putS (by rfl) _ _ _ rfl rfl S.out _ (addrC 4 (zp l 4)) rfl rfl 1 27 _ rfl (by rw [addr_info]; exact congrArg some (addrC_size16 zk).symm) (by simp [addrC, bts_length, zk, Z0]) (addrC_ones _ _) ?_; intro w' hS; simp only [List.set] at hS; replace S := hid hS; clear hS)))
      refine post_addr Tryd.results61 rfl _ 4 (zp l 4) rfl (S.out.heap 1 rfl) zk ?_
      exact P.out _ S.out.nil
theorem r5right_any (p : Pk) (os xs : List Int) (w : World) (h : Pin w p os xs) (hl : os.length ≤ 140737488355328 ∧ xs.length ≤ 140737488355328) : Calls Tryd.prog 21 #[.agg (pkC p)] w (APost w (.bool (right4 p os xs.length))) := by
  have L1 := h.pk.src.len
  have L2 := h.pk.dst.len
  have PI := hid h
  have FI := hid (fun W (hP : Pin W p os xs) => rfields_any p os xs W hP hl)
  have OV := hid (fun W (hv : Rb W p.ov os) => ropts_any p.ov os W hv)
  have RE := hid (right4_fields p os xs.length)
  have P := hid (fun en w' c (h1 : en = .returned (.bool c)) (hc : c = right4 p os xs.length) (h2 : Sp w w' []) => show APost w (.bool (right4 p os xs.length)) en w' from ⟨by rw [h1, hc], h2.bel⟩)
  generalize right4 p os xs.length = r at *
  generalize fields4 p os.length xs.length = f at *
  generalize validB os = v at *
  have S : Hid (Sp w (w.alloc (.cells (pkC p) 30)) [.blk w.heap.size (pkC p) 30]) := hid (Sp.in1 ..)
  clear h hl
  go_enter Tryd.func21, Tryd.ntmps21
  go_upto_region 1 with fail
  generalize w.alloc (.cells (pkC p) 30) = w' at *
  generalize w.heap.size = b at *
  go_wp2_with (first
    | go_skip
    | ((with_reducible show wpList _ _ _ _ _ _); ((with_reducible show wpList _ _ _ (⟨_, .load _ _, _, _, _, _⟩ :: _) _ _); first | (first | (refine wpList_getW (by rfl) _ rfl S.out _ rfl 0 _ rfl (by first | rfl | assumption) (by first | rfl | assumption) ?_) | (refine wpList_getW (by rfl) _ rfl S.out _ rfl 1 _ rfl (by first | rfl | assumption) (by first | rfl | assumption) ?_) | (refine wpList_getW (by rfl) _ rfl S.out _ rfl 2 _ rfl (by first | rfl | assumption) (by first | rfl | assumption) ?_) | (refine wpList_getW (by rfl) _ rfl S.out _ rfl 3 _ rfl (by first | rfl | assumption) (by first | rfl | assumption) ?_) | (refine wpList_getW (by rfl) _ rfl S.out _ rfl 4 _ rfl (by first | rfl | assumption) (by first | rfl | assumption) ?_) | (refine wpList_getW (by rfl) _ rfl S.out _ rfl 5 _ rfl (by first | rfl | assumption) (by first | rfl | assumption) ?_)) | (first | (refine wpList_get_pk (by rfl) _ _ rfl S.out _ _ rfl 0 _ rfl _ rfl (by rfl) (by first | rfl | assumption) (by first | rfl | assumption) ?_) | (refine wpList_get_pk (by rfl) _ _ rfl S.out _ _ rfl 1 _ rfl _ rfl (by rfl) (by first | rfl | assumption) (by first | rfl | assumption) ?_) | (refine wpList_get_pk (by rfl) _ _ rfl S.out _ _ rfl 2 _ rfl _ rfl (by rfl) (by first | rfl | assumption) (by first | rfl | assumption) ?_) | (refine wpList_get_pk (by rfl) _ _ rfl S.out _ _ rfl 3 _ rfl _ rfl (by rfl) (by first | rfl | assumption) (by first | rfl | assumption) ?_) | (refine wpList_get_pk (by rfl) _ _ rfl S.out _ _ rfl 4 _ rfl _ rfl (by rfl) (by first | rfl | assumption) (by first | rfl | assumption) ?_) | (refine wpList_get_pk (by rfl) _ _ rfl S.out _ _ rfl 5 _ rfl _ rfl (by rfl) (by first | rfl | assumption) (by first | rfl | assumption) ?_))))
    | (go_at_call 40; refine (FI.out _ (PI.out.below S.out.bel)).mono ?_; rintro en w' ⟨rfl, hb⟩; replace S := hid (S.out.keep hb); clear hb; cases f)
    | (go_at_call 41; refine (OV.out _ (PI.out.oR.below S.out.bel)).mono ?_; rintro en w'' ⟨rfl, rfl⟩))
  all_goals
    go_ret
    refine P.out _ _ _ rfl ?_ S.out.nil
    rw [RE.out]
    try rfl
    try (cases v <;> rfl)
theorem r5head_any (p : Pk) (os xs : List Int) (w : World) (h : Pin w p os xs) (hl : os.length ≤ 140737488355328 ∧ xs.length ≤ 140737488355328) : Calls Tryd.prog 23 #[.agg (pkC p)] w (APost w (.int .i64 (if right4 p os xs.length = true then ((20 + os.length : Nat) : Int) else 0))) := by
  have L1 := h.pk.src.len
  have L2 := h.pk.dst.len
  have PI := hid h
  have R := hid (fun W hP => r5right_any p os xs W hP hl)
  obtain ⟨r, hr⟩ : ∃ r, (if right4 p os xs.length = true then ((20 + os.length : Nat) : Int) else 0) = r := ⟨_, rfl⟩
  rw [hr]
  have HE := hid hr
  have P := hid (fun en w' k (h1 : en = .returned (.int .i64 k)) (hk : k = r) (h2 : Sp w w' []) => show APost w (.int .i64 r) en w' from ⟨by rw [h1, hk], h2.bel⟩)
  clear hr
  obtain ⟨oa, oc, eo, hoc, hom, _⟩ := h.oR.open
  unfold maxLen at hom
  generalize right4 p os xs.length = rb at *
  generalize os.length = no at *
  have S : Hid (Sp w (w.alloc (.cells (pkC p) 30)) [.blk w.heap.size (pkC p) 30]) := hid (Sp.in1 ..)
  clear h
  go_enter Tryd.func23, Tryd.ntmps23
  go_upto_region 1 with fail
  generalize w.alloc (.cells (pkC p) 30) = w' at *
  generalize w.heap.size = b at *
  go_wp2_with (first
    | go_skip
    | ((with_reducible show wpList _ _ _ _ _ _); first | ((with_reducible show wpList _ _ _ (⟨_, .load _ _, _, _, _, _⟩ :: _) _ _); first | (first | (refine wpList_getW (by rfl) _ rfl S.out _ rfl 0 _ rfl (by first | rfl | assumption) (by first | rfl | assumption) ?_) | (refine wpList_getW (by rfl) _ rfl S.out _ rfl 1 _ rfl (by first | rfl | assumption) (by first | rfl | assumption) ?_) | (refine wpList_getW (by rfl) _ rfl S.out _ rfl 2 _ rfl (by first | rfl | assumption) (by first | rfl | assumption) ?_) | (refine wpList_getW (by rfl) _ rfl S.out _ rfl 3 _ rfl (by first | rfl | assumption) (by first | rfl | assumption) ?_) | (refine wpList_getW (by rfl) _ rfl S.out _ rfl 4 _ rfl (by first | rfl | assumption) (by first | rfl | assumption) ?_) | (refine wpList_getW (by rfl) _ rfl S.out _ rfl 5 _ rfl (by first | rfl | assumption) (by first | rfl | assumption) ?_)) | (first | (refine wpList_get_pk (by rfl) _ _ rfl S.out _ _ rfl 0 _ rfl _ rfl (by rfl) (by first | rfl | assumption) (by first | rfl | assumption) ?_) | (refine wpList_get_pk (by rfl) _ _ rfl S.out _ _ rfl 1 _ rfl _ rfl (by rfl) (by first | rfl | assumption) (by first | rfl | assumption) ?_) | (refine wpList_get_pk (by rfl) _ _ rfl S.out _ _ rfl 2 _ rfl _ rfl (by rfl) (by first | rfl | assumption) (by first | rfl | assumption) ?_) | (refine wpList_get_pk (by rfl) _ _ rfl S.out _ _ rfl 3 _ rfl _ rfl (by rfl) (by first | rfl | assumption) (by first | rfl | assumption) ?_) | (refine wpList_get_pk (by rfl) _ _ rfl S.out _ _ rfl 4 _ rfl _ rfl (by rfl) (by first | rfl | assumption) (by first | rfl | assumption) ?_) | (refine wpList_get_pk (by rfl) _ _ rfl S.out _ _ rfl 5 _ rfl _ rfl (by rfl) (by first | rfl | assumption) (by first | rfl | assumption) ?_))))
    | (go_at_call 21; refine (R.out _ (PI.out.below S.out.bel)).mono ?_; rintro en w' ⟨rfl, hb⟩; replace S := hid (S.out.keep hb); clear hb; cases rb))
  all_goals
    go_ret
    refine P.out _ _ _ rfl ?_ S.out.nil
    rw [← HE.out]
    simp
/-- what a call that grows a row tells -/
def Grow5 (base : Nat) (v : Value) (L : List Int) (n : Nat) (w : World) (en : Ending) (w' : World) : Prop :=
  ∃ a c, en = .returned (.slice a n c) ∧ w'.ownsRow base 5 1 (.slice a n c) n (bts L) ∧ w.grownBy w' v.ownBlock ∧ ∀ g, (Value.slice a n c).ownBlock = some g → v.ownBlock = some g ∨ w.heap.size ≤ g
theorem grown_alc {w w2 : World} {o : Obj} {r : Option Nat} (h : (w.alloc o).grownBy w2 r) : w.grownBy w2 r :=
  ⟨h.os, h.tape, h.output, Nat.le_trans (bel_alloc w o).size h.size, fun k hk hne => (h.block k (Nat.lt_of_lt_of_le hk (bel_alloc w o).size) hne).trans ((bel_alloc w o).block k hk)⟩
set_option maxHeartbeats 1000000 in
theorem r5two_any (base : Nat) (v : Value) (L : List Int) (n : Nat) (x : Int) (w : World) (ho : w.ownsRow base 5 1 v n (bts L)) (hb : base ≤ w.heap.size) (h0 : 0 ≤ x) (h1 : x ≤ 65535) (hl : n ≤ 1000000) :
    Calls Tryd.prog 67 #[v, .int .i64 x] w (Grow5 base v (L ++ [x / 256, x % 256]) (n + 2) w) := by
  obtain ⟨i0, hi, hz0, hz1, hz2⟩ := info_parts Tryd.info5
  have HO := hid (ho.alloc (.cells #[.int .u8 (x / 256), .int .u8 (x % 256)] 5))
  have HB := hid (show base ≤ (w.alloc (.cells #[.int .u8 (x / 256), .int .u8 (x % 256)] 5)).heap.size from Nat.le_trans hb (bel_alloc _ _).size)
  have HR := hid (rb_lit (w := w) (cs := #[.int .u8 (x / 256), .int .u8 (x % 256)]) (l := [x / 256, x % 256]) (n := 2) (by intro y hy; simp at hy; omega) rfl rfl (by decide))
  have a1 : IntKind.u8.wrap (x / 256) = x / 256 := IntWalk.u8_in _ (by omega)
  have a2 : IntKind.u8.wrap (x % 256) = x % 256 := IntWalk.u8_in _ (by omega)
  have HS := hid (fun b (h : v.ownBlock = some b) => (ho.lt b h).2)
  have P := hid (fun en w' a c (g1 : en = .returned (.slice a (n + 2) c)) (g2 : w'.ownsRow base 5 1 (.slice a (n + 2) c) (n + 2) (bts L ++ bts [x / 256, x % 256])) (g3 : w.grownBy w' v.ownBlock) (g4 : ∀ g, (Value.slice a (n + 2) c).ownBlock = some g → v.ownBlock = some g ∨ w.heap.size ≤ g) =>
    show Grow5 base v (L ++ [x / 256, x % 256]) (n + 2) w en w' from by
      refine ⟨a, c, g1, ?_, g3, g4⟩
      rw [bts_append]; exact g2)
  clear ho hb
  go_enter Tryd.func67, Tryd.ntmps67
  go_wp2_with (first
    | go_skip
    | ((with_reducible show wpList _ _ _ _ _ _); refine wpList_append_bytesG (by rfl) _ _ 22 rfl base 5 i0 _ Tryd.underlying22 hi hz0 hz1 hz2 rfl _ _ _ rfl HO.out _ _ rfl HR.out (by simp; omega) HB.out ?_; intro a2 c2 w' g1 g2 g3; replace g1 := hid g1; replace g2 := hid g2; replace g3 := hid g3))
  go_ret
  refine P.out _ _ _ _ rfl g1.out (grown_alc g2.out) fun g hg => ?_
  rcases g3.out g hg with h | h
  · exact .inl h
  · exact .inr (by simp at h; omega)
set_option maxHeartbeats 4000000 in
set_option maxRecDepth 20000 in
theorem r5lay_any (p : Pk) (os xs : List Int) (w : World) (h : Pin w p os xs) (hr : right4 p os xs.length = true) : Calls Tryd.prog 50 #[.agg (pkC p)] w (Own1 (b4L p os xs) (b4L p os xs).length w) := by
  obtain ⟨⟨t0, t1, t2, t3⟩, ⟨a0, a1⟩, ⟨a2, a3⟩, ⟨b1, b2, b3⟩, ⟨c1, c2, c3⟩, d1, d2⟩ := right4_parts hr
  have hv := validB_len d1
  have hf := flags4_bd (p := p) c1.1 c1.2.1 c1.2.2.1
  have hp := h.pk
  have H1 := hid hp.src
  have H2 := hid hp.dst
  have hl1 := hp.src.len
  have hl2 := hp.dst.len
  have hs := sum4_bd hp h.oR.byt hr
  have ID0 := hp.id0
  have PI := hid h
  have YS := (hp.src.byt.take 4)
  have YD := (hp.dst.byt.take 4)
  have yh := hid (h4_byt (s := 0) hp h.oR.byt hr (by decide) (by decide))
  have lh := h4_len (p := p) (os := os) (n := xs.length) (s := 0) hl1 hl2
  have LH : Hid ([64 + ((20 + os.length : Nat) : Int) / 4, p.TOS] ++ [((20 + os.length + xs.length : Nat) : Int) / 256, ((20 + os.length + xs.length : Nat) : Int) % 256] ++ [p.ID / 256, p.ID % 256] ++ [flags4 p / 256, flags4 p % 256] ++ [p.TTL, p.Proto, 0, 0] ++ p.sB.take 4 ++ p.dB.take 4 ++ os = h4 p os xs.length 0) := hid (by
    unfold h4
    simp)
  have LB : Hid (((h4 p os xs.length 0).set 10 (sum4 p os xs.length / 256)).set 11 (sum4 p os xs.length % 256) ++ xs = b4L p os xs) := hid (by
    unfold b4L
    congr 1)
  have SU := hid (fun W v (hv : Rb W v (h4 p os xs.length 0)) => (show Calls Tryd.prog 60 #[v] W (APost W (.int .i64 (sum4 p os xs.length))) from by
    have := r5sum_any v (h4 p os xs.length 0) W hv (by rw [lh]; omega) (by rw [lh]; omega) (by rw [lh]; omega)
    rwa [show ((h4 p os xs.length 0).set 10 0).set 11 0 = h4 p os xs.length 0 from rfl] at this))
  have lb := b4L_len (p := p) (os := os) (xs := xs) hl1 hl2
  rw [lb]
  have FL : Hid (p.Off / 8 + (if p.DF = true then 16384 else 0) + (if p.More = true then 8192 else 0) = flags4 p) := hid rfl
  have P := hid (fun w' a c (hS : Sp w w' [.row (.slice a (20 + os.length + xs.length) c) 5 1 (20 + os.length + xs.length) (bts (b4L p os xs))]) => (show Own1 (b4L p os xs) (20 + os.length + xs.length) w (.returned (.slice a (20 + os.length + xs.length) c)) w' from ⟨a, c, rfl, hS⟩))
  generalize b4L p os xs = r at *
  generalize sum4 p os xs.length = sm at *
  generalize h4 p os xs.length 0 = H0 at *
  generalize flags4 p = fl at *
  obtain ⟨oa, oc, eo, hoc, hom, _⟩ := h.oR.open
  obtain ⟨xa, xc, ex, hxc, hxm, _⟩ := h.xR.open
  unfold maxLen at hxm hom
  have OR := hid h.oR
  have XR := hid h.xR
  have yb := h.oR.byt
  obtain ⟨V, TOS, Flow, sV, sB, dV, dB, Proto, TTL, ID, DF, More, Frag, Off, ov, xv⟩ := p
  simp only at *
  subst eo ex
  generalize hno : os.length = no at *
  generalize hnx : xs.length = nx at *
  have HO := hid hno
  have HX := hid hnx
  have s2 : IntKind.u8.wrap (64 + (20 + (no : Int)) / 4) = 64 + ((20 + no : Nat) : Int) / 4 := by rw [IntWalk.u8_in _ (by omega)]; omega
  have s3 : IntKind.u8.wrap TOS = TOS := IntWalk.u8_in _ (by omega)
  have s8 : IntKind.u8.wrap TTL = TTL := IntWalk.u8_in _ (by omega)
  have s9 : IntKind.u8.wrap Proto = Proto := IntWalk.u8_in _ (by omega)
  have u1 : IntKind.u8.wrap (sm / 256) = sm / 256 := IntWalk.u8_in _ (by omega)
  have u2 : IntKind.u8.wrap (sm % 256) = sm % 256 := IntWalk.u8_in _ (by omega)
  have TW := hid (fun W base v L n x y (hxy : x = y) (ho : W.ownsRow base 5 1 v n (bts L)) (hb : base ≤ W.heap.size) (h0 : 0 ≤ y) (h1 : y ≤ 65535) (hl : n ≤ 1000000) => (show Calls Tryd.prog 67 #[v, .int .i64 x] W (Grow5 base v (L ++ [y / 256, y % 256]) (n + 2) W) from by rw [hxy]; exact r5two_any base v L n y W ho hb h0 h1 hl))
  unfold Grow5 at TW
  have S : Hid (Sp w (w.alloc (.cells (pkC ⟨V, TOS, Flow, sV, sB, dV, dB, Proto, TTL, ID, DF, More, Frag, Off, .slice oa no oc, .slice xa nx xc⟩) 30)) [.blk w.heap.size (pkC ⟨V, TOS, Flow, sV, sB, dV, dB, Proto, TTL, ID, DF, More, Frag, Off, .slice oa no oc, .slice xa nx xc⟩) 30]) := hid (Sp.in1 ..)
  clear h hr hp d1 a0 a1 a2 a3 hno hnx t0 t1 t2 c2 c3
  cases DF <;> cases More
  all_goals (
  go_enter Tryd.func50, Tryd.ntmps50
  go_upto_region 1 with fail
  generalize w.alloc (.cells (pkC _) 30) = w' at *
  generalize w.heap.size = b at *
  go_wp2_with (first
    | go_skip
    | ((with_reducible show wpList _ _ _ (_ :: _) _ (World.alloc _ (.cells _ 5))); refine wpList_world fun w' hw2 => ?_; (first | (replace S := hid (S.out.lit (l := [64 + ((20 + no : Nat) : Int) / 4, TOS]) (n := 2) hw2 rfl rfl (by decide))) | (replace S := hid (S.out.lit (l := [TTL, Proto, 0, 0]) (n := 4) hw2 rfl rfl (by decide)))); clear hw2)
    | ((with_reducible show wpList _ _ _ _ _ _)
       first
       | ((with_reducible show wpList _ _ _ (⟨_, .load _ _, _, _, _, _⟩ :: _) _ _); first | (refine wpList_get_pk (by rfl) _ _ rfl S.out _ _ rfl 0 _ rfl _ rfl (by rfl) (by first | rfl | assumption) (by first | rfl | assumption) ?_) | (refine wpList_get_pk (by rfl) _ _ rfl S.out _ _ rfl 1 _ rfl _ rfl (by rfl) (by first | rfl | assumption) (by first | rfl | assumption) ?_))
       | ((with_reducible show wpList _ _ _ (⟨_, .store _ _ _, _, _, _, _⟩ :: _) _ _); refine wpList_put_row (by rfl) _ _ rfl rfl S.out _ _ rfl _ rfl 0 _ _ _ rfl (by omega) ?_; intro w' hS; simp only [List.set] at hS; replace S := hid hS; clear hS)
       | (at_builtin; first
          | (refine wpList_grow (by rfl) _ _ rfl S.out 1 rfl rfl _ [TTL, Proto, 0, 0] rfl (S.out.rb 0 rfl (by intro y hy; simp at hy; omega)) 12 (by rfl) (by decide) ?_; rintro ra rc w' hS; simp only [List.set] at hS; replace S := hid (hS.sub (List.sublist_cons_self _ _)); clear hS)
          | (refine wpList_grow (by rfl) _ _ rfl S.out 0 rfl rfl _ (sB.take 4) rfl (by have h := pk_src_rb (S.out.pk 1 rfl) H1.out (n := 4) (by decide); exact h) 16 (by simp [hl1]) (by decide) ?_; rintro ra rc w' hS; simp only [List.set] at hS; replace S := hid hS; clear hS)
          | (refine wpList_grow (by rfl) _ _ rfl S.out 0 rfl rfl _ (dB.take 4) rfl (by have h := pk_dst_rb (S.out.pk 1 rfl) hl1 H2.out (n := 4) (by decide); exact h) 20 (by simp [hl2]) (by decide) ?_; rintro ra rc w' hS; simp only [List.set] at hS; replace S := hid hS; clear hS)
          | (refine wpList_grow (by rfl) _ _ rfl S.out 0 rfl rfl _ os rfl (OR.out.below S.out.bel) (20 + no) (by rw [HO.out]) (by omega) ?_; rintro ra rc w' hS; simp only [List.set] at hS; rw [LH.out] at hS; replace S := hid hS; clear hS; obtain ⟨g9, c9, hv9⟩ := S.out.rowopen 0 rfl (by omega); simp only [Value.slice.injEq, true_and] at hv9; obtain ⟨rfl, rfl⟩ := hv9)
          | (refine wpList_grow (by rfl) _ _ rfl S.out 0 rfl rfl _ xs rfl (XR.out.below S.out.bel) (20 + no + nx) (by rw [HX.out]) (by omega) ?_; rintro ra rc w' hS; simp only [List.set] at hS; rw [LB.out] at hS; replace S := hid hS; clear hS)))
    | (go_at_call 60; refine (SU.out _ _ (S.out.rb 0 rfl yh.out)).mono ?_; rintro en w' ⟨rfl, hb⟩; replace S := hid (S.out.keep hb); clear hb)
    | (go_at_call 67; first
       | (refine (TW.out _ _ _ _ 2 _ ((20 + no + nx : Nat) : Int) (by omega) (S.out.own 0 rfl) S.out.le (by omega) (by omega) (by decide)).mono ?_; rintro en w' ⟨ra, rc, rfl, ho, hg, hf⟩; replace S := hid (S.out.grow 0 rfl hg ho hf); clear ho hg hf; simp only [List.set_cons_zero, Nat.reduceAdd] at S)
       | (refine (TW.out _ _ _ _ 4 _ ID (by rfl) (S.out.own 0 rfl) S.out.le (by omega) (by omega) (by decide)).mono ?_; rintro en w' ⟨ra, rc, rfl, ho, hg, hf⟩; replace S := hid (S.out.grow 0 rfl hg ho hf); clear ho hg hf; simp only [List.set_cons_zero, Nat.reduceAdd] at S)
       | (refine (TW.out _ _ _ _ 6 _ fl (by have h := FL.out; simp at h; omega) (S.out.own 0 rfl) S.out.le (by omega) (by omega) (by decide)).mono ?_; rintro en w' ⟨ra, rc, rfl, ho, hg, hf⟩; replace S := hid (S.out.grow 0 rfl hg ho hf); clear ho hg hf; simp only [List.set_cons_zero, Nat.reduceAdd] at S))))
  all_goals
    go_ret
    exact P.out _ _ _ (S.out.sub (by repeat (first | exact List.Sublist.refl _ | exact List.nil_sublist _ | apply List.Sublist.cons_cons | apply List.Sublist.cons)))
end Go.Proofs.YtaecfcaeopmiaaaDoor
