/-
  The statement Ip4Parses, walked.
-/
import Derived.Test.YtaecfcaeopmiaaaDoorRf5C
import Derived.Test.YtaecfcaeopmiaaaDoorLaw5B
import Derived.Test.YtaecfcaeopmiaaaDoorWide
namespace Go.Proofs.YtaecfcaeopmiaaaDoor
open Go.RowKit

/-- what both Parses tell -/
def PA4 (q : Pk) (os xs : List Int) (no nx : Nat) (E : Int) (w : World) (en : Ending) (w' : World) : Prop :=
  ∃ so co sx cx, en = .returned (.tuple #[.agg (pkC (pkO q (.slice so no co) (.slice sx nx cx))), .int .i64 E]) ∧ Sp w w' [.row (.slice sx nx cx) 5 1 nx (bts xs), .row (.slice so no co) 5 1 no (bts os)]
theorem p4_all {l : List Int} (hb : Byt l) : ∃ q os xs no nx E, Byt os ∧ Byt xs ∧ q.sB.length = 16 ∧ q.dB.length = 16 ∧ (∀ o x : Value, o.oneCell' = true → x.oneCell' = true → IsPk (pkO q o x)) ∧ ∀ w en w', P4Post l w en w' → PA4 q os xs no nx E w en w' := by
  by_cases he : p4E l = 0
  · have h20 := (p4E_parts he).1
    have hK : IsPk (p4K l (.slice none 0 0) (.slice none 0 0)) := p4K_is hb h20 rfl rfl
    refine ⟨p4K l (.slice none 0 0) (.slice none 0 0), o4L l, x4L l, head4 l - 20, l.length - head4 l, 0, (hb.drop 20).take _, hb.drop _, hK.src.len, hK.dst.len, fun o x ho hx => pkO_is hK ho hx, fun w en w' h => ?_⟩
    obtain ⟨so, co, sx, cx, h1, h2⟩ := h.2 he
    exact ⟨so, co, sx, cx, h1, h2⟩
  · refine ⟨pk0, [], [], 0, 0, p4E l, Byt.nil, Byt.nil, rfl, rfl, fun o x ho hx => pkO_is pk0_is ho hx, fun w en w' h => ?_⟩
    obtain ⟨h1, h2⟩ := h.1 he
    exact ⟨none, 0, none, 0, h1, (((Sp.refl w).keep h2).nilrow 5 1).nilrow 5 1⟩
set_option maxHeartbeats 4000000 in
set_option maxRecDepth 20000 in
theorem ip4Parses_any (bv : Value) (l : List Int) (w : World) (hT : Tab w) (h : Rb w bv l) (hl : l.length ≤ 140737488355328) :
    Calls Tryd.prog 3 #[bv] w (APost w (.bool true)) := by
  have HB := hid h
  have TB := hid hT
  have YB := h.byt
  obtain ⟨q, os, xs, no, nx, E, YO, YX, Q1, Q2, QI, QA⟩ := p4_all h.byt
  replace QI := hid QI
  have B1 := hid (fun W v (hv : Rb W v l) (hT : Tab W) => (parse4_any v l W hv hT hl).mono fun _ _ hh => QA _ _ _ hh)
  have B2 := hid (fun W v (hv : Rb W v l) => (r5parse_any v l W hv hl).mono fun _ _ hh => QA _ _ _ hh)
  clear QA
  have AL := hid (fun W (hT : Tab W) => alive5_any W hT)
  have OB := hid (fun W v (hv : Rb W v l) => ownB_any v l W hv hl)
  have SB := hid (fun W v u (m : List Int) (h1 : Rb W v m) (h2 : Rb W u m) => (show Calls Tryd.prog 16 #[v, u] W (SameP W true) from by have := sameB_any v u m m W h1 h2; rwa [decide_eq_true rfl] at this))
  have SM := hid (fun W so co sx cx so2 co2 sx2 cx2 (h1 : Rb W (.slice so no co) os) (h2 : Rb W (.slice sx nx cx) xs) (h3 : Rb W (.slice so2 no co2) os) (h4 : Rb W (.slice sx2 nx cx2) xs) =>
    (show Calls Tryd.prog 15 #[.agg (pkC (pkO q (.slice so no co) (.slice sx nx cx))), .agg (pkC (pkO q (.slice so2 no co2) (.slice sx2 nx cx2)))] W (APost W (.bool true)) from by
      have := sameP_any (pkO q (.slice so no co) (.slice sx nx cx)) (pkO q (.slice so2 no co2) (.slice sx2 nx cx2)) os os xs xs W (QI.out _ _ rfl rfl) (QI.out _ _ rfl rfl) h1 h3 h2 h4
      rwa [sameK_self] at this))
  obtain ⟨n, hn⟩ : ∃ n, l.length = n := ⟨_, rfl⟩
  have YF : Byt (l ++ [165, 166]) := YB.append (by intro x hx; simp at hx; omega)
  have Y2 : Byt [165, 166] := by intro x hx; simp at hx; omega
  obtain ⟨ad, cd, rfl, hcd, hmd, _⟩ := h.open
  unfold maxLen at hmd
  have TK : (l ++ [165, 166]).take n = l := by rw [← hn]; simp
  rw [hn] at HB OB hl
  rw [hn]
  have hnf : n ≤ (l ++ [165, 166]).length := by simp; omega
  have P := hid (fun en w' (h1 : en = .returned (.bool true)) (h2 : Sp w w' []) => show APost w (.bool true) en w' from ⟨h1, h2.bel⟩)
  have S : Hid (Sp w w []) := hid (Sp.refl w)
  have w' := w
  clear h hT hn
  go_enter Tryd.func3, Tryd.ntmps3
  go_upto_region 4 with (first
    | go_skip
    | (((with_reducible show wpList _ _ _ (_ :: _) _ (World.alloc _ (.cells _ 5))); refine wpList_world fun w' hw2 => ?_; replace S := hid (S.out.lit (l := [165, 166]) (n := 2) hw2 rfl rfl (by decide)); clear hw2))
    | ((with_reducible show wpList _ _ _ _ _ _); (at_builtin; refine wpList_growW (by rfl) _ _ rfl S.out 1 rfl rfl _ [165, 166] rfl (S.out.rb 0 rfl Y2) (n + 2) (by rfl) (by omega) (by omega) ?_; rintro ca cc w' hS; simp only [List.set_cons_zero, List.set_cons_succ] at hS; replace S := hid hS; clear hS; have hcc := (S.out.cap 1 rfl).1))
    | (go_at_call 11; refine (AL.out _ (TB.out.below S.out.bel)).mono ?_; rintro en w' ⟨rfl, hb⟩; replace S := hid (S.out.keep hb); clear hb)
    | (go_at_call 12; refine (OB.out _ _ (HB.out.below S.out.bel)).mono ?_; rintro en w' ⟨sz, cz, rfl, hS⟩; replace hS := S.out.call hS; simp only [List.cons_append, List.nil_append] at hS; replace S := hid hS; clear hS))
  go_wp2_with (first
    | go_skip
    | (((with_reducible show wpList _ _ _ (_ :: _) _ (World.alloc _ (.cells _ 5))); refine wpList_world fun w' hw2 => ?_; replace S := hid (S.out.lit (l := [165, 166]) (n := 2) hw2 rfl rfl (by decide)); clear hw2))
    | (((with_reducible show wpList _ _ _ (_ :: _) _ (World.alloc _ (.cells _ 30))); refine wpList_world fun w' hw2 => ?_; replace S := hid (show Sp _ _ (.blk _ (pkC pk0) 30 :: _) from S.out.alloc hw2); clear hw2))
    | ((with_reducible show wpList _ _ _ _ _ _); first
        | ((with_reducible show wpList _ _ _ (⟨_, .load 30 _, _, _, _, _⟩ :: _) _ _); first | (refine wpList_getW (by rfl) _ rfl S.out _ rfl 0 _ rfl Q1 Q2 ?_) | (refine wpList_getW (by rfl) _ rfl S.out _ rfl 3 _ rfl Q1 Q2 ?_))
        | ((with_reducible show wpList _ _ _ (⟨_, .slice _ _ _ _ _, _, _, _, _⟩ :: _) _ _); refine wpList_front (by rfl) _ _ rfl _ _ _ rfl _ _ rfl n rfl (by omega) ?_)
        | ((with_reducible show wpList _ _ _ (⟨_, .store _ _ _, _, _, _, _⟩ :: _) _ _); refine wpList_putW (by rfl) _ _ rfl rfl S.out _ rfl 0 _ rfl (pkO q (.slice _ no _) (.slice _ nx _)) rfl Q1 Q2 rfl rfl rfl rfl ?_; intro w' hS; simp only [List.set] at hS; replace S := hid hS; clear hS)
        | (at_builtin; refine wpList_growW (by rfl) _ _ rfl S.out 1 rfl rfl _ [165, 166] rfl (S.out.rb 0 rfl Y2) (n + 2) (by rfl) (by omega) (by omega) ?_; rintro ca3 cc3 w' hS; simp only [List.set_cons_zero, List.set_cons_succ] at hS; replace S := hid hS; clear hS))
    | (go_at_call 13; refine (B1.out _ _ (by have := (S.out.rb 1 rfl YF).front n hnf; rw [TK] at this; exact this) (TB.out.below S.out.bel)).mono ?_; rintro en w' ⟨so, co, sx, cx, rfl, hS⟩; replace hS := S.out.call hS; simp only [List.cons_append, List.nil_append] at hS; replace S := hid hS; clear hS)
    | (go_at_call 14; refine (B2.out _ _ (HB.out.below S.out.bel)).mono ?_; rintro en w' ⟨so2, co2, sx2, cx2, rfl, hS⟩; replace hS := S.out.call hS; simp only [List.cons_append, List.nil_append] at hS; replace S := hid hS; clear hS)
    | (go_at_call 15; refine (SM.out _ _ _ _ _ _ _ _ _ (S.out.rb 5 rfl YO) (S.out.rb 4 rfl YX) (S.out.rb 2 rfl YO) (S.out.rb 1 rfl YX)).mono ?_; rintro en w' ⟨rfl, hb⟩; replace S := hid (S.out.keep hb); clear hb)
    | (go_at_call 12; refine (OB.out _ _ (HB.out.below S.out.bel)).mono ?_; rintro en w' ⟨sz3, cz3, rfl, hS⟩; replace hS := S.out.call hS; simp only [List.cons_append, List.nil_append] at hS; replace S := hid hS; clear hS)
    | (go_at_call 16; refine (SB.out _ _ _ _ (S.out.rb 9 rfl YF) (S.out.rb 1 rfl YF)).mono ?_; rintro en w'' ⟨rfl, rfl⟩))
  go_ret
  exact P.out _ _ rfl S.out.nil
end Go.Proofs.YtaecfcaeopmiaaaDoor
