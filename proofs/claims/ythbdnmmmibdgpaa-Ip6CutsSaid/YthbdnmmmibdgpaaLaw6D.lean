/-
  The statement Ip6Cuts, walked.
-/
import Derived.Test.YthbdnmmmibdgpaaLaw6B
import Derived.Test.YthbdnmmmibdgpaaWide
namespace Go.Proofs.Ythbdnmmmibdgpaa
open Go.RowKit

theorem gt_take {l : List Int} {k j : Nat} (h : j < k) : gt (l.take k) j = gt l j := by simp [gt, h]
theorem gt_left {l m : List Int} {j : Nat} (h : j < l.length) : gt (l ++ m) j = gt l j := by simp [gt, List.getElem?_append_left h]
theorem cut_E {l : List Int} (he : p6E l = 0) {k : Nat} (hk : k < l.length) : p6E (l.take k) = if k < 40 then 20 else 51 := by
  obtain ⟨h40, h0, h4, _, _⟩ := p6E_parts he
  have hl : (l.take k).length = k := by simp; omega
  unfold p6E
  rw [hl]
  by_cases h : k < 40
  · rw [if_pos h, if_pos h]
  · have hw : wordL (l.take k) 4 = wordL l 4 := by unfold wordL; rw [gt_take (by omega), gt_take (by omega)]
    rw [if_neg h, if_neg h, if_neg (by rw [gt_take (by omega)]; omega), if_pos (by rw [hw]; omega)]
theorem add_E {l m : List Int} (he : p6E l = 0) (hm : 0 < m.length) : p6E (l ++ m) = 51 := by
  obtain ⟨h40, h0, h4, _, _⟩ := p6E_parts he
  have hl : (l ++ m).length = l.length + m.length := by simp
  unfold p6E
  rw [hl]
  have hw : wordL (l ++ m) 4 = wordL l 4 := by unfold wordL; rw [gt_left (by omega), gt_left (by omega)]
  rw [if_neg (by omega), if_neg (by rw [gt_left (by omega)]; omega), if_pos (by rw [hw]; omega)]
theorem u64_id {x : Int} (h0 : 0 ≤ x) (h1 : x ≤ 9223372036854775807) : IntKind.u64.wrap x = x := by simp [IntKind.wrap, IntKind.bits, IntKind.signed]; omega
theorem u64_idx (x : Int) (n : Nat) (h0 : 0 < n) (h1 : n ≤ 65575) : ∃ j : Nat, j < n ∧ wrap64 ((IntKind.u64.wrap x).tmod (n : Int)) = (j : Int) := by
  have hx : 0 ≤ IntKind.u64.wrap x := wrap_u64_nonneg x
  have a := Int.emod_nonneg (IntKind.u64.wrap x) (by omega : (n : Int) ≠ 0)
  have b := Int.emod_lt_of_pos (IntKind.u64.wrap x) (by omega : (0 : Int) < n)
  refine ⟨(IntKind.u64.wrap x % (n : Int)).toNat, by omega, ?_⟩
  rw [Int.tmod_eq_emod_of_nonneg hx, w64_in a (by omega)]
  omega
set_option maxHeartbeats 1000000 in
set_option maxRecDepth 20000 in
theorem ip6Cuts_any (p : Pk) (lo ld : List Int) (a : Int) (bv : Value) (l : List Int) (w : World) (h : PkIn w p lo ld) (_ : -9223372036854775808 ≤ a ∧ a ≤ 9223372036854775807) (hb : Rb w bv l) (hl : l.length ≤ 140737488355328) :
    Calls Try.prog 8 #[.agg (pkC p), .int .i64 a, bv] w (APost w (.bool true)) := by
  have L1 := h.pin.pk.src.len
  have L2 := h.pin.pk.dst.len
  have PI := hid h.pin
  have LB := hid (And.intro h.lo h.ld)
  have FT := hid (fun W (hP : Pin W p lo ld) => fit_any_x p lo ld W hP LB.out)
  obtain ⟨q, xs, yx, hq, hov, hr, hxl, e1, e2⟩ := fit_q p lo ld w h.pin
  rw [← e1, ← e2] at FT
  clear e1 e2
  have C1 := hid (rc_of hq yx hr)
  have BE := hid (back6 hq hr).1
  generalize b6L q xs = bl at *
  generalize hn : xs.length = n at *
  have hsm := C1.out.small
  have hh := C1.out.hn
  have PN := hid (fun (hS : Sp w w []) => hS)
  generalize hnb : bl.length = nb at *
  have hnb0 : 0 < nb := by omega
  obtain ⟨j, hj, ej⟩ := u64_idx a nb hnb0 hsm
  have eu : IntKind.u64.wrap (nb : Int) = (nb : Int) := u64_id (by omega) (by omega)
  have PT := hid (fun W v (hR : Rb W v (bl.take j)) => (show Calls Try.prog 19 #[v] W (APost W (.tuple #[.agg (pkC pk0), .int .i64 (if j < 40 then 20 else 51)])) from by
    have hc := cut_E BE.out (k := j) (by omega)
    have := par_no (l := bl.take j) (by rw [hc]; split <;> decide) v W hR
    rwa [hc] at this))
  have PA := hid (fun W v (hm : 0 < l.length) (hR : Rb W v (bl ++ l)) => (show Calls Try.prog 19 #[v] W (APost W (.tuple #[.agg (pkC pk0), .int .i64 51])) from by
    have hc := add_E BE.out hm
    have := par_no (l := bl ++ l) (by rw [hc]; decide) v W hR
    rwa [hc] at this))
  have NB := hid hnb
  have YB := C1.out.yb
  have HB := hid hb
  have HL := hid hl
  have YL := hb.byt
  have Y3 : Byt (bl ++ l) := YB.append YL
  have Y4 : Byt (bl.take j) := YB.take j
  obtain ⟨ba, bc, eb, _⟩ := hb.open
  subst eb
  have SZ := hid same_zero
  have P := hid (fun en w' (h1 : en = .returned (.bool true)) (h2 : Sp w w' []) => show APost w (.bool true) en w' from ⟨h1, h2.bel⟩)
  have S : Hid (Sp w (w.alloc (.cells (pkC p) 28)) [.blk w.heap.size (pkC p) 28]) := hid (Sp.in1 ..)
  have hz0 : ((nb : Int) == 0) = false := by simp; omega
  have hz1 : (nb : Int) ≠ 0 := by omega
  have JB := hid hj
  have SM := hid hsm
  have FX := hid (fun W x (hx : Rb W x xs) (o : x.oneCell' = true) => (⟨pkX_is hq rfl o, Rb.nil W, hx⟩ : Pin W (pkX q (.slice none 0 0) x) [] xs))
  have YX := yx
  clear h hb hl hq hr yx hxl hov hnb hsm hh hnb0 hj PN
  by_cases h40 : j < 40 <;> rcases Nat.eq_zero_or_pos l.length with h0 | h0
  all_goals (
  (first | rw [if_pos h40] at PT | rw [if_neg h40] at PT)
  have d1 : (j : Int) < 40 ∨ 40 ≤ (j : Int) := by omega
  have hl0 : ((l.length : Int) == 0) = decide (l.length = 0) := by rw [Bool.eq_iff_iff]; simp
  first
  | (have d2 : (j : Int) < 40 := by omega
     have d3 : ¬ 40 ≤ (j : Int) := by omega
     clear d1)
  | (have d2 : ¬ (j : Int) < 40 := by omega
     have d3 : 40 ≤ (j : Int) := by omega
     clear d1)
  first
  | (have hl1 : decide (l.length = 0) = true := decide_eq_true h0
     rw [hl1] at hl0)
  | (have hl1 : decide (l.length = 0) = false := decide_eq_false (Nat.ne_of_gt h0)
     rw [hl1] at hl0)
  have H0 := hid h0
  clear hl1 h0 h40
  go_enter Try.func8, Try.ntmps8
  go_upto_region 1 with fail
  generalize w.alloc (.cells (pkC p) 28) = w' at *
  generalize w.heap.size = b at *
  go_wp2_with (first
    | go_skip
    | (((with_reducible show wpList _ _ _ (_ :: _) _ (World.alloc _ (.cells _ 5))); refine wpList_world fun w' hw2 => ?_; (first | (replace S := hid (S.out.lit (l := []) (n := 0) hw2 rfl rfl (by decide))) | (replace S := hid (S.out.lit (l := [_]) (n := 1) hw2 rfl rfl (by decide))) | (replace S := hid (S.out.lit (l := [_, _]) (n := 2) hw2 rfl rfl (by decide))) | (replace S := hid (S.out.lit (l := [_, _, _]) (n := 3) hw2 rfl rfl (by decide))) | (replace S := hid (S.out.lit (l := [_, _, _, _]) (n := 4) hw2 rfl rfl (by decide)))); clear hw2))
    | (((with_reducible show wpList _ _ _ (_ :: _) _ (World.alloc _ (.cells _ 28))); refine wpList_world fun w' hw2 => ?_; replace S := hid (show Sp _ _ (.blk _ (pkC pk0) 28 :: _) from S.out.alloc hw2); clear hw2))
    | ((with_reducible show wpList _ _ _ _ _ _)
       first
       | ((with_reducible show wpList _ _ _ (⟨_, .load _ _, _, _, _, _⟩ :: _) _ _); first | (refine wpList_getW (by rfl) _ rfl S.out _ rfl 0 _ rfl (by first | rfl | assumption) (by first | rfl | assumption) ?_) | (refine wpList_getW (by rfl) _ rfl S.out _ rfl 1 _ rfl (by first | rfl | assumption) (by first | rfl | assumption) ?_) | (refine wpList_getW (by rfl) _ rfl S.out _ rfl 2 _ rfl (by first | rfl | assumption) (by first | rfl | assumption) ?_) | (refine wpList_getW (by rfl) _ rfl S.out _ rfl 3 _ rfl (by first | rfl | assumption) (by first | rfl | assumption) ?_) | (refine wpList_getW (by rfl) _ rfl S.out _ rfl 4 _ rfl (by first | rfl | assumption) (by first | rfl | assumption) ?_) | (refine wpList_getW (by rfl) _ rfl S.out _ rfl 5 _ rfl (by first | rfl | assumption) (by first | rfl | assumption) ?_))
       | ((with_reducible show wpList _ _ _ (⟨_, .store _ _ _, _, _, _, _⟩ :: _) _ _); first | (refine wpList_putW (by rfl) _ _ rfl rfl S.out _ rfl 0 _ rfl _ rfl (by first | rfl | assumption) (by first | rfl | assumption) (by first | rfl | assumption) (by first | rfl | assumption) (by first | rfl | assumption) (by first | rfl | assumption) ?_; intro w' hS; simp only [List.set] at hS; replace S := hid hS; clear hS) | (refine wpList_putW (by rfl) _ _ rfl rfl S.out _ rfl 1 _ rfl _ rfl (by first | rfl | assumption) (by first | rfl | assumption) (by first | rfl | assumption) (by first | rfl | assumption) (by first | rfl | assumption) (by first | rfl | assumption) ?_; intro w' hS; simp only [List.set] at hS; replace S := hid hS; clear hS) | (refine wpList_putW (by rfl) _ _ rfl rfl S.out _ rfl 2 _ rfl _ rfl (by first | rfl | assumption) (by first | rfl | assumption) (by first | rfl | assumption) (by first | rfl | assumption) (by first | rfl | assumption) (by first | rfl | assumption) ?_; intro w' hS; simp only [List.set] at hS; replace S := hid hS; clear hS) | (refine wpList_putW (by rfl) _ _ rfl rfl S.out _ rfl 3 _ rfl _ rfl (by first | rfl | assumption) (by first | rfl | assumption) (by first | rfl | assumption) (by first | rfl | assumption) (by first | rfl | assumption) (by first | rfl | assumption) ?_; intro w' hS; simp only [List.set] at hS; replace S := hid hS; clear hS) | (refine wpList_putW (by rfl) _ _ rfl rfl S.out _ rfl 4 _ rfl _ rfl (by first | rfl | assumption) (by first | rfl | assumption) (by first | rfl | assumption) (by first | rfl | assumption) (by first | rfl | assumption) (by first | rfl | assumption) ?_; intro w' hS; simp only [List.set] at hS; replace S := hid hS; clear hS))
       | (refine wpList_front (by rfl) _ _ rfl _ _ _ rfl _ _ rfl j (by first | rfl | exact ej) (by exact Nat.le_of_lt (Nat.lt_of_lt_of_le JB.out (S.out.cap 1 rfl).1)) ?_)
       | (at_builtin; first
          | (refine wpList_grow (by rfl) _ _ rfl S.out 0 rfl rfl _ (bl.take j) rfl ((S.out.rb 1 rfl YB).front j (by have := NB.out; have := JB.out; omega)) j (by have := NB.out; have := JB.out; simp; omega) (by have := SM.out; have := JB.out; omega) ?_; rintro ca cc w' hS; simp only [List.set_cons_zero, List.nil_append] at hS; replace S := hid hS; clear hS)
          | (refine wpList_growW (by rfl) _ _ rfl S.out 0 rfl rfl _ l rfl (S.out.old HB.out) (nb + l.length) rfl (by have := SM.out; omega) (by have := SM.out; have := HL.out; omega) ?_; rintro ca cc w' hS; simp only [List.set_cons_zero] at hS; replace S := hid hS; clear hS)
          | (refine wpList_grow (by rfl) _ _ rfl S.out 0 rfl rfl _ bl rfl (by (first | exact S.out.rb 0 rfl (by assumption) | exact S.out.rb 1 rfl (by assumption) | exact S.out.rb 2 rfl (by assumption) | exact S.out.rb 3 rfl (by assumption) | exact S.out.rb 4 rfl (by assumption) | exact S.out.rb 5 rfl (by assumption) | exact S.out.rb 6 rfl (by assumption))) nb (by have := NB.out; omega) (by have := SM.out; omega) ?_; rintro ca cc w' hS; simp only [List.set_cons_zero, List.nil_append] at hS; replace S := hid hS; clear hS)))
    | (go_at_call 10; refine (alive6_any _).mono ?_; rintro en w' ⟨rfl, hb⟩; replace S := hid (S.out.keep hb); clear hb)
    | (go_at_call 22; refine (FT.out _ (PI.out.below S.out.bel)).mono ?_; rintro en w' ⟨sx, cx, rfl, hS⟩; replace hS := S.out.call hS; simp only [List.cons_append, List.nil_append] at hS; replace S := hid hS; clear hS)
    | (go_at_call 11; refine (C1.out.bld _ _ _ (FX.out _ _ (S.out.rb 0 rfl YX) rfl)).mono ?_; rintro en w' ⟨ca, cc, rfl, hS⟩; replace hS := S.out.call hS; simp only [List.cons_append, List.nil_append] at hS; replace S := hid hS; clear hS)
    | (go_at_call 19; first
       | (refine (PT.out _ _ (by (first | exact S.out.rb 0 rfl (by assumption) | exact S.out.rb 1 rfl (by assumption) | exact S.out.rb 2 rfl (by assumption) | exact S.out.rb 3 rfl (by assumption) | exact S.out.rb 4 rfl (by assumption) | exact S.out.rb 5 rfl (by assumption) | exact S.out.rb 6 rfl (by assumption)))).mono ?_; rintro en w' ⟨rfl, hb⟩; replace S := hid (S.out.keep hb); clear hb)
       | (refine (PA.out _ _ (by have := H0.out; omega) (by (first | exact S.out.rb 0 rfl (by assumption) | exact S.out.rb 1 rfl (by assumption) | exact S.out.rb 2 rfl (by assumption) | exact S.out.rb 3 rfl (by assumption) | exact S.out.rb 4 rfl (by assumption) | exact S.out.rb 5 rfl (by assumption) | exact S.out.rb 6 rfl (by assumption)))).mono ?_; rintro en w' ⟨rfl, hb⟩; replace S := hid (S.out.keep hb); clear hb))
    | (go_at_call 21; refine (SZ.out _).mono ?_; rintro en w' ⟨rfl, hb⟩; replace S := hid (S.out.keep hb); clear hb))
  all_goals
    go_ret
    exact P.out _ _ rfl S.out.nil
  )
end Go.Proofs.Ythbdnmmmibdgpaa
