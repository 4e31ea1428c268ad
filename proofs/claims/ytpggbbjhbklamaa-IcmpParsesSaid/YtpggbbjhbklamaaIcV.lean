/-
  The statements' own alive.
-/
import Derived.Test.YtpggbbjhbklamaaIcH
import Derived.Test.YtpggbbjhbklamaaCst
namespace Go.Proofs.Ytpggbbjhbklamaa
open Go.RowKit

def ex4 : List Int := [10, 0, 0, 1, 0, 0, 0, 0, 0, 0, 0, 0, 0, 0, 0, 0]
def exD : List Int := [97, 98]
def exM : List Int := [8, 0, 150, 154, 0, 1, 0, 2, 97, 98]
theorem ex4_is : IsA 4 ex4 := ⟨rfl, by intro y hy; simp [ex4] at hy; omega, (show (-9223372036854775808 : Int) ≤ 4 by decide), (show (4 : Int) ≤ 9223372036854775807 by decide)⟩
theorem exD_byt : Byt exD := by intro y hy; simp [exD] at hy; omega
theorem exM_byt : Byt exM := by intro y hy; simp [exM] at hy; omega
theorem ex_lay : iB 4 ex4 ex4 8 0 65538 exD = exM := by rfl
theorem ex_pair : pairA 4 ex4 4 ex4 = true := by rfl
theorem ex_bld (W : World) (v : Value) (hv : Rb W v exD) : Calls Try.prog 9 #[.agg (addrC 4 ex4), .agg (addrC 4 ex4), .agg (msgC 4 8 0 65538 v)] W (BB 0 10 exM W) := by
  have := ibuild_yes 4 ex4 ex4 8 0 65538 v exD W ex4_is ex4_is ex_pair (.inl rfl) (by decide) (by decide) (by decide) hv (by decide)
  rwa [ex_lay] at this
def ExPar (W : World) (en : Ending) (w' : World) : Prop := ∃ sx cx, en = .returned (.tuple #[.agg (msgC 4 8 0 65538 (.slice sx 2 cx)), .int .i64 0]) ∧ Sp W w' [.row (.slice sx 2 cx) 5 1 2 (bts exD)]
theorem ex_par (W : World) (v : Value) (hv : Rb W v exM) : Calls Try.prog 14 #[.agg (addrC 4 ex4), .agg (addrC 4 ex4), v] W (ExPar W) := by
  have hb := i_back (V := 4) (bs := ex4) (bs2 := ex4) (T := 8) (C := 0) (R := 65538) (d := exD) ex4_is.byt ex4_is.byt (by decide) (by decide) (by decide) exD_byt (by decide) (by decide)
  rw [ex_lay] at hb
  obtain ⟨e1, e2, e3, e4, e5, e6⟩ := hb
  refine (iparse_any 4 ex4 ex4 v exM W ex4_is ex4_is ex_pair hv (by decide)).mono fun en w' hh => ?_
  obtain ⟨sx, cx, he, hS⟩ := hh.2 e1
  rw [e2, e3, e4] at he
  rw [e5] at hS
  exact ⟨sx, cx, he, hS⟩
set_option maxHeartbeats 1000000 in
set_option maxRecDepth 20000 in
theorem alive8_any (w : World) : Calls Try.prog 7 #[] w (APost w (.bool true)) := by
  have L1 : ex4.length = 16 := rfl
  have YM := exM_byt
  have YD := exD_byt
  have BD := hid ex_bld
  have PD := hid ex_par
  unfold ExPar at PD
  have SA := hid (fun W v u (h1 : Rb W v exM) (h2 : Rb W u exM) => (show Calls Try.prog 11 #[v, u] W (SameP W true) from by have := sameB_any v u _ _ W h1 h2; rwa [decide_eq_true rfl] at this))
  have SM := hid (fun W v u (h1 : Rb W v exD) (h2 : Rb W u exD) => sameM_true 4 8 0 65538 v u exD W h1 h2)
  have P := hid (fun en w' (h1 : en = .returned (.bool true)) (h2 : Sp w w' []) => show APost w (.bool true) en w' from ⟨h1, h2.bel⟩)
  have S : Hid (Sp w w []) := hid (Sp.refl w)
  have w' := w
  go_enter Try.func7, Try.ntmps7
  go_upto_region 4 with (first
    | go_skip
    | ((with_reducible show wpList _ _ _ (⟨_, .convert _ _ _, _, _, _, _⟩ :: _) _ (World.alloc _ (.cells _ 5))); refine wpList_convconst (by rfl) _ rfl S.out 2 rfl exD rfl exD_byt rfl (by decide) ?_; intro w' hS; replace S := hid hS; clear hS)
    | ((with_reducible show wpList _ _ _ (_ :: _) _ (World.alloc _ (.cells _ 5))); refine wpList_world fun w' hw2 => ?_; (first | (replace S := hid (S.out.lit (l := exD) (n := 2) hw2 rfl rfl (by decide))) | (replace S := hid (S.out.lit (l := exM) (n := 10) hw2 rfl rfl (by decide)))); clear hw2)
    | ((with_reducible show wpList _ _ _ (_ :: _) _ (World.alloc _ _)); refine wpList_world fun w' hw2 => ?_; replace S := hid (S.out.alloc hw2); clear hw2)
    | ((with_reducible show wpList _ _ _ _ _ _); ((with_reducible show wpList _ _ _ (⟨_, .store _ _ _, _, _, _, _⟩ :: _) _ _); first
        | (refine wpList_putS (by rfl) _ _ _ rfl rfl S.out _ (addrC 4 ex4) rfl rfl 0 24 _ rfl addr_info (by rfl) (addrC_one 4 ex4) ?_; intro w' hS; simp only [List.set] at hS; replace S := hid hS; clear hS)
        | (refine wpList_putS (by rfl) _ _ _ rfl rfl S.out _ (msgC 4 8 0 65538 (.slice _ 2 2)) rfl rfl 0 28 _ rfl msg_info (by rfl) (msg_one rfl) ?_; intro w' hS; simp only [List.set] at hS; replace S := hid hS; clear hS))))
  go_wp2_with (first
    | go_skip
    | ((with_reducible show wpList _ _ _ (_ :: _) _ (World.alloc _ _)); refine wpList_world fun w' hw2 => ?_; replace S := hid (S.out.alloc hw2); clear hw2)
    | ((with_reducible show wpList _ _ _ _ _ _); first
        | ((with_reducible show wpList _ _ _ (⟨_, .load 24 _, _, _, _, _⟩ :: _) _ _); first | (refine wpList_getS (by rfl) _ _ rfl S.out _ rfl 0 _ _ rfl _ (by rfl) Try.underlying24 (by rw [addr_info]; exact congrArg some (addr_cells (by first | rfl | assumption)).symm) ?_) | (refine wpList_getS (by rfl) _ _ rfl S.out _ rfl 1 _ _ rfl _ (by rfl) Try.underlying24 (by rw [addr_info]; exact congrArg some (addr_cells (by first | rfl | assumption)).symm) ?_) | (refine wpList_getS (by rfl) _ _ rfl S.out _ rfl 2 _ _ rfl _ (by rfl) Try.underlying24 (by rw [addr_info]; exact congrArg some (addr_cells (by first | rfl | assumption)).symm) ?_) | (refine wpList_getS (by rfl) _ _ rfl S.out _ rfl 3 _ _ rfl _ (by rfl) Try.underlying24 (by rw [addr_info]; exact congrArg some (addr_cells (by first | rfl | assumption)).symm) ?_) | (refine wpList_getS (by rfl) _ _ rfl S.out _ rfl 4 _ _ rfl _ (by rfl) Try.underlying24 (by rw [addr_info]; exact congrArg some (addr_cells (by first | rfl | assumption)).symm) ?_) | (refine wpList_getS (by rfl) _ _ rfl S.out _ rfl 5 _ _ rfl _ (by rfl) Try.underlying24 (by rw [addr_info]; exact congrArg some (addr_cells (by first | rfl | assumption)).symm) ?_))
        | ((with_reducible show wpList _ _ _ (⟨_, .load 28 _, _, _, _, _⟩ :: _) _ _); first | (refine wpList_getS (by rfl) _ _ rfl S.out _ rfl 0 _ _ rfl _ (by rfl) Try.underlying28 msg_info ?_) | (refine wpList_getS (by rfl) _ _ rfl S.out _ rfl 1 _ _ rfl _ (by rfl) Try.underlying28 msg_info ?_) | (refine wpList_getS (by rfl) _ _ rfl S.out _ rfl 2 _ _ rfl _ (by rfl) Try.underlying28 msg_info ?_) | (refine wpList_getS (by rfl) _ _ rfl S.out _ rfl 3 _ _ rfl _ (by rfl) Try.underlying28 msg_info ?_) | (refine wpList_getS (by rfl) _ _ rfl S.out _ rfl 4 _ _ rfl _ (by rfl) Try.underlying28 msg_info ?_))
        | ((with_reducible show wpList _ _ _ (⟨_, .store _ _ _, _, _, _, _⟩ :: _) _ _); refine wpList_putS (by rfl) _ _ _ rfl rfl S.out _ (msgC 4 8 0 65538 (.slice _ 2 _)) rfl rfl 0 28 _ rfl msg_info (by rfl) (msg_one rfl) ?_; intro w' hS; simp only [List.set] at hS; replace S := hid hS; clear hS))
    | (go_at_call 9; refine (BD.out _ _ (by first | exact S.out.cst 0 rfl | exact S.out.cst 1 rfl | exact S.out.cst 2 rfl | exact S.out.cst 3 rfl | exact S.out.cst 4 rfl | exact S.out.cst 5 rfl | exact S.out.cst 6 rfl)).mono ?_; rintro en w' ⟨ca, cc, rfl, hS⟩; replace hS := S.out.call hS; simp only [List.cons_append, List.nil_append] at hS; replace S := hid hS; clear hS)
    | (go_at_call 14; refine (PD.out _ _ (by (first | exact S.out.rb 0 rfl (by assumption) | exact S.out.rb 1 rfl (by assumption) | exact S.out.rb 2 rfl (by assumption) | exact S.out.rb 3 rfl (by assumption) | exact S.out.rb 4 rfl (by assumption) | exact S.out.rb 5 rfl (by assumption) | exact S.out.rb 6 rfl (by assumption)))).mono ?_; rintro en w' ⟨sx, cx, rfl, hS⟩; replace hS := S.out.call hS; simp only [List.cons_append, List.nil_append] at hS; replace S := hid hS; clear hS)
    | (go_at_call 11; refine (SA.out _ _ _ (by (first | exact S.out.rb 0 rfl (by assumption) | exact S.out.rb 1 rfl (by assumption) | exact S.out.rb 2 rfl (by assumption) | exact S.out.rb 3 rfl (by assumption) | exact S.out.rb 4 rfl (by assumption) | exact S.out.rb 5 rfl (by assumption) | exact S.out.rb 6 rfl (by assumption))) (by (first | exact S.out.rb 0 rfl (by assumption) | exact S.out.rb 1 rfl (by assumption) | exact S.out.rb 2 rfl (by assumption) | exact S.out.rb 3 rfl (by assumption) | exact S.out.rb 4 rfl (by assumption) | exact S.out.rb 5 rfl (by assumption) | exact S.out.rb 6 rfl (by assumption)))).mono ?_; rintro en w'' ⟨rfl, rfl⟩)
    | (go_at_call 16; refine (SM.out _ _ _ (by first | exact S.out.cst 0 rfl | exact S.out.cst 1 rfl | exact S.out.cst 2 rfl | exact S.out.cst 3 rfl | exact S.out.cst 4 rfl | exact S.out.cst 5 rfl | exact S.out.cst 6 rfl) (by (first | exact S.out.rb 0 rfl (by assumption) | exact S.out.rb 1 rfl (by assumption) | exact S.out.rb 2 rfl (by assumption) | exact S.out.rb 3 rfl (by assumption) | exact S.out.rb 4 rfl (by assumption) | exact S.out.rb 5 rfl (by assumption) | exact S.out.rb 6 rfl (by assumption)))).mono ?_; rintro en w' ⟨rfl, hb⟩; replace S := hid (S.out.keep hb); clear hb)
    | (go_at_call 12; first
        | ((have M3 := M2); refine (isErr_6 _ _ _).mono ?_; rintro en w' ⟨rfl, hb⟩; replace S := hid (S.out.keep hb); clear hb)
        | (refine (isErr_8 _ _ _).mono ?_; have M2 := True.intro; rintro en w' ⟨rfl, hb⟩; replace S := hid (S.out.keep hb); clear hb)))
  go_ret
  exact P.out _ _ rfl S.out.nil
end Go.Proofs.Ytpggbbjhbklamaa
