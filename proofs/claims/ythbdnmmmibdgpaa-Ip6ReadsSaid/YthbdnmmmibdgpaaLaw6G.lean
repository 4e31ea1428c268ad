/-
  The statement Ip6Reads, walked.
-/
import Derived.Test.YthbdnmmmibdgpaaRefP6
import Derived.Test.YthbdnmmmibdgpaaLaw6B
namespace Go.Proofs.Ythbdnmmmibdgpaa
open Go.RowKit

theorem prt_of {l : List Int} (he : p6E l = 0) {w w' : World} {en : Ending} (h : P6Post (p6E l) l w en w') : PRt (p6K l (.slice none 0 0)) (l.drop (from6 l)) (l.length - from6 l) w en w' := by
  obtain ⟨hb, _, h2⟩ := h
  obtain ⟨s, c, h3, ho⟩ := h2 he
  rw [List.length_drop] at ho
  exact ⟨s, c, h3, Sp.ofOwn ho hb⟩
set_option maxHeartbeats 1000000 in
set_option maxRecDepth 20000 in
theorem ip6Reads_any (bv : Value) (l : List Int) (w : World) (h : Rb w bv l) (hl : l.length ≤ 140737488355328) : Calls Try.prog 4 #[bv] w (APost w (.bool true)) := by
  have HB := hid h
  have HL := hid hl
  have YL := h.byt
  obtain ⟨ba, bc, eb, _⟩ := h.open
  subst eb
  have P := hid (fun en w' (h1 : en = .returned (.bool true)) (h2 : Sp w w' []) => show APost w (.bool true) en w' from ⟨h1, h2.bel⟩)
  have S : Hid (Sp w w []) := hid (Sp.refl w)
  have CS : (∃ q xs n, (Hid (∀ v W, Rb W v l → Calls Try.prog 19 #[v] W (PRt q xs n W)) ∧ Hid (∀ v W, Rb W v l → Calls Try.prog 20 #[v] W (PRt q xs n W))) ∧ Hid (∀ W x y, Rb W x xs → Rb W y xs → x.oneCell' = true → y.oneCell' = true → Calls Try.prog 21 #[.agg (pkC (pkX q (.slice none 0 0) x)), .agg (pkC (pkX q (.slice none 0 0) y))] W (APost W (.bool true))) ∧ Byt xs ∧ q.sB.length = 16 ∧ q.dB.length = 16) ∨
      ∃ k, (Hid (∀ v W, Rb W v l → Calls Try.prog 19 #[v] W (APost W (.tuple #[.agg (pkC pk0), .int .i64 k]))) ∧ Hid (∀ v W, Rb W v l → Calls Try.prog 20 #[v] W (APost W (.tuple #[.agg (pkC pk0), .int .i64 k])))) := by
    by_cases he : p6E l = 0
    · have hq := p6K_is YL (p6E_parts he).1 (v := .slice none 0 0) rfl
      exact .inl ⟨_, _, _, ⟨hid fun v W h => (parse6_any v l W h).mono fun en w' h => prt_of he h, hid fun v W h => (rParse6_any v l W h hl).mono fun en w' h => prt_of he h⟩, hid fun W x y h1 h2 o1 o2 => same_x x y W hq h1 h2 o1 o2, YL.drop _, hq.src.len, hq.dst.len⟩
    · exact .inr ⟨p6E l, hid fun v W h => (parse6_any v l W h).mono fun en w' ⟨hb, h1, _⟩ => ⟨h1 he, hb⟩, hid fun v W h => (rParse6_any v l W h hl).mono fun en w' ⟨hb, h1, _⟩ => ⟨h1 he, hb⟩⟩
  have SZ := hid (fun W => (samePacket6_any pk0 pk0 [] [] [] [] W pk0_is pk0_is (Rb.nil W) (Rb.nil W) (Rb.nil W) (Rb.nil W)).mono (R' := APost W (.bool true)) fun en w' ⟨he, hb⟩ => ⟨he.trans (congrArg (fun b => Ending.returned (.bool b)) (by rfl)), hb⟩)
  clear h hl
  have w' := w
  rcases CS with ⟨q, xs, n, ⟨PA, RA⟩, SM, Y2, L1, L2⟩ | ⟨k, PA, RA⟩
  · go_enter Try.func4, Try.ntmps4
    go_wp2_with (first
      | go_skip
      | (((with_reducible show wpList _ _ _ (_ :: _) _ (World.alloc _ (.cells _ 5))); refine wpList_world fun w' hw2 => ?_; (first | (replace S := hid (S.out.lit (l := []) (n := 0) hw2 rfl rfl (by decide))) | (replace S := hid (S.out.lit (l := [_]) (n := 1) hw2 rfl rfl (by decide))) | (replace S := hid (S.out.lit (l := [_, _]) (n := 2) hw2 rfl rfl (by decide))) | (replace S := hid (S.out.lit (l := [_, _, _]) (n := 3) hw2 rfl rfl (by decide))) | (replace S := hid (S.out.lit (l := [_, _, _, _]) (n := 4) hw2 rfl rfl (by decide)))); clear hw2))
      | (((with_reducible show wpList _ _ _ (_ :: _) _ (World.alloc _ (.cells _ 28))); refine wpList_world fun w' hw2 => ?_; replace S := hid (show Sp _ _ (.blk _ (pkC pk0) 28 :: _) from S.out.alloc hw2); clear hw2))
      | ((with_reducible show wpList _ _ _ _ _ _)
         first
         | ((with_reducible show wpList _ _ _ (⟨_, .load _ _, _, _, _, _⟩ :: _) _ _); first | (refine wpList_getW (by rfl) _ rfl S.out _ rfl 0 _ rfl (by first | rfl | assumption) (by first | rfl | assumption) ?_) | (refine wpList_getW (by rfl) _ rfl S.out _ rfl 1 _ rfl (by first | rfl | assumption) (by first | rfl | assumption) ?_) | (refine wpList_getW (by rfl) _ rfl S.out _ rfl 2 _ rfl (by first | rfl | assumption) (by first | rfl | assumption) ?_) | (refine wpList_getW (by rfl) _ rfl S.out _ rfl 3 _ rfl (by first | rfl | assumption) (by first | rfl | assumption) ?_) | (refine wpList_getW (by rfl) _ rfl S.out _ rfl 4 _ rfl (by first | rfl | assumption) (by first | rfl | assumption) ?_) | (refine wpList_getW (by rfl) _ rfl S.out _ rfl 5 _ rfl (by first | rfl | assumption) (by first | rfl | assumption) ?_))
         | ((with_reducible show wpList _ _ _ (⟨_, .store _ _ _, _, _, _, _⟩ :: _) _ _); first | (refine wpList_putW (by rfl) _ _ rfl rfl S.out _ rfl 0 _ rfl _ rfl (by first | rfl | assumption) (by first | rfl | assumption) (by first | rfl | assumption) (by first | rfl | assumption) (by first | rfl | assumption) (by first | rfl | assumption) ?_; intro w' hS; simp only [List.set] at hS; replace S := hid hS; clear hS) | (refine wpList_putW (by rfl) _ _ rfl rfl S.out _ rfl 1 _ rfl _ rfl (by first | rfl | assumption) (by first | rfl | assumption) (by first | rfl | assumption) (by first | rfl | assumption) (by first | rfl | assumption) (by first | rfl | assumption) ?_; intro w' hS; simp only [List.set] at hS; replace S := hid hS; clear hS) | (refine wpList_putW (by rfl) _ _ rfl rfl S.out _ rfl 2 _ rfl _ rfl (by first | rfl | assumption) (by first | rfl | assumption) (by first | rfl | assumption) (by first | rfl | assumption) (by first | rfl | assumption) (by first | rfl | assumption) ?_; intro w' hS; simp only [List.set] at hS; replace S := hid hS; clear hS) | (refine wpList_putW (by rfl) _ _ rfl rfl S.out _ rfl 3 _ rfl _ rfl (by first | rfl | assumption) (by first | rfl | assumption) (by first | rfl | assumption) (by first | rfl | assumption) (by first | rfl | assumption) (by first | rfl | assumption) ?_; intro w' hS; simp only [List.set] at hS; replace S := hid hS; clear hS) | (refine wpList_putW (by rfl) _ _ rfl rfl S.out _ rfl 4 _ rfl _ rfl (by first | rfl | assumption) (by first | rfl | assumption) (by first | rfl | assumption) (by first | rfl | assumption) (by first | rfl | assumption) (by first | rfl | assumption) ?_; intro w' hS; simp only [List.set] at hS; replace S := hid hS; clear hS))
         | (at_builtin; refine wpList_grow (by rfl) _ _ rfl S.out 0 rfl rfl _ l rfl (S.out.old HB.out) l.length (by omega) (by have := HL.out; omega) ?_; rintro ca cc w' hS; simp only [List.set_cons_zero, List.nil_append] at hS; replace S := hid hS; clear hS))
      | (go_at_call 10; refine (alive6_any _).mono ?_; rintro en w' ⟨rfl, hb⟩; replace S := hid (S.out.keep hb); clear hb)
      | (go_at_call 19; refine (PA.out _ _ (S.out.rb 0 rfl YL)).mono ?_; rintro en w' ⟨sx, cx, rfl, hS⟩; replace hS := S.out.call hS; simp only [List.cons_append, List.nil_append] at hS; replace S := hid hS; clear hS)
      | (go_at_call 20; refine (RA.out _ _ (S.out.old HB.out)).mono ?_; rintro en w' ⟨sx, cx, rfl, hS⟩; replace hS := S.out.call hS; simp only [List.cons_append, List.nil_append] at hS; replace S := hid hS; clear hS)
      | (go_at_call 21; refine (SM.out _ _ _ (by (first | exact S.out.rb 0 rfl (by assumption) | exact S.out.rb 1 rfl (by assumption) | exact S.out.rb 2 rfl (by assumption) | exact S.out.rb 3 rfl (by assumption) | exact S.out.rb 4 rfl (by assumption) | exact S.out.rb 5 rfl (by assumption) | exact S.out.rb 6 rfl (by assumption))) (by (first | exact S.out.rb 0 rfl (by assumption) | exact S.out.rb 1 rfl (by assumption) | exact S.out.rb 2 rfl (by assumption) | exact S.out.rb 3 rfl (by assumption) | exact S.out.rb 4 rfl (by assumption) | exact S.out.rb 5 rfl (by assumption) | exact S.out.rb 6 rfl (by assumption))) rfl rfl).mono ?_; rintro en w' ⟨rfl, hb⟩; replace S := hid (S.out.keep hb); clear hb))
    all_goals
      go_ret
      exact P.out _ _ rfl S.out.nil
  · go_enter Try.func4, Try.ntmps4
    go_wp2_with (first
      | go_skip
      | (((with_reducible show wpList _ _ _ (_ :: _) _ (World.alloc _ (.cells _ 5))); refine wpList_world fun w' hw2 => ?_; (first | (replace S := hid (S.out.lit (l := []) (n := 0) hw2 rfl rfl (by decide))) | (replace S := hid (S.out.lit (l := [_]) (n := 1) hw2 rfl rfl (by decide))) | (replace S := hid (S.out.lit (l := [_, _]) (n := 2) hw2 rfl rfl (by decide))) | (replace S := hid (S.out.lit (l := [_, _, _]) (n := 3) hw2 rfl rfl (by decide))) | (replace S := hid (S.out.lit (l := [_, _, _, _]) (n := 4) hw2 rfl rfl (by decide)))); clear hw2))
      | (((with_reducible show wpList _ _ _ (_ :: _) _ (World.alloc _ (.cells _ 28))); refine wpList_world fun w' hw2 => ?_; replace S := hid (show Sp _ _ (.blk _ (pkC pk0) 28 :: _) from S.out.alloc hw2); clear hw2))
      | ((with_reducible show wpList _ _ _ _ _ _)
         first
         | ((with_reducible show wpList _ _ _ (⟨_, .load _ _, _, _, _, _⟩ :: _) _ _); first | (refine wpList_getW (by rfl) _ rfl S.out _ rfl 0 _ rfl (by first | rfl | assumption) (by first | rfl | assumption) ?_) | (refine wpList_getW (by rfl) _ rfl S.out _ rfl 1 _ rfl (by first | rfl | assumption) (by first | rfl | assumption) ?_) | (refine wpList_getW (by rfl) _ rfl S.out _ rfl 2 _ rfl (by first | rfl | assumption) (by first | rfl | assumption) ?_) | (refine wpList_getW (by rfl) _ rfl S.out _ rfl 3 _ rfl (by first | rfl | assumption) (by first | rfl | assumption) ?_) | (refine wpList_getW (by rfl) _ rfl S.out _ rfl 4 _ rfl (by first | rfl | assumption) (by first | rfl | assumption) ?_) | (refine wpList_getW (by rfl) _ rfl S.out _ rfl 5 _ rfl (by first | rfl | assumption) (by first | rfl | assumption) ?_))
         | ((with_reducible show wpList _ _ _ (⟨_, .store _ _ _, _, _, _, _⟩ :: _) _ _); first | (refine wpList_putW (by rfl) _ _ rfl rfl S.out _ rfl 0 _ rfl pk0 rfl (by first | rfl | assumption) (by first | rfl | assumption) (by first | rfl | assumption) (by first | rfl | assumption) rfl rfl ?_; intro w' hS; simp only [List.set] at hS; replace S := hid hS; clear hS) | (refine wpList_putW (by rfl) _ _ rfl rfl S.out _ rfl 1 _ rfl pk0 rfl (by first | rfl | assumption) (by first | rfl | assumption) (by first | rfl | assumption) (by first | rfl | assumption) rfl rfl ?_; intro w' hS; simp only [List.set] at hS; replace S := hid hS; clear hS) | (refine wpList_putW (by rfl) _ _ rfl rfl S.out _ rfl 2 _ rfl pk0 rfl (by first | rfl | assumption) (by first | rfl | assumption) (by first | rfl | assumption) (by first | rfl | assumption) rfl rfl ?_; intro w' hS; simp only [List.set] at hS; replace S := hid hS; clear hS) | (refine wpList_putW (by rfl) _ _ rfl rfl S.out _ rfl 3 _ rfl pk0 rfl (by first | rfl | assumption) (by first | rfl | assumption) (by first | rfl | assumption) (by first | rfl | assumption) rfl rfl ?_; intro w' hS; simp only [List.set] at hS; replace S := hid hS; clear hS))
         | (at_builtin; refine wpList_grow (by rfl) _ _ rfl S.out 0 rfl rfl _ l rfl (S.out.old HB.out) l.length (by omega) (by have := HL.out; omega) ?_; rintro ca cc w' hS; simp only [List.set_cons_zero, List.nil_append] at hS; replace S := hid hS; clear hS))
      | (go_at_call 10; refine (alive6_any _).mono ?_; rintro en w' ⟨rfl, hb⟩; replace S := hid (S.out.keep hb); clear hb)
      | (go_at_call 19; refine (PA.out _ _ (S.out.rb 0 rfl YL)).mono ?_; rintro en w' ⟨rfl, hb⟩; replace S := hid (S.out.keep hb); clear hb)
      | (go_at_call 20; refine (RA.out _ _ (S.out.old HB.out)).mono ?_; rintro en w' ⟨rfl, hb⟩; replace S := hid (S.out.keep hb); clear hb)
      | (go_at_call 21; refine (SZ.out _).mono ?_; rintro en w' ⟨rfl, hb⟩; replace S := hid (S.out.keep hb); clear hb))
    all_goals
      go_ret
      exact P.out _ _ rfl S.out.nil
end Go.Proofs.Ythbdnmmmibdgpaa
