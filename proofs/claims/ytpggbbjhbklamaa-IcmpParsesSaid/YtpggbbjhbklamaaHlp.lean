/-
  The statements' own helpers: bytes and packets compared, copied.
-/
import Derived.Test.YtpggbbjhbklamaaStr
import Derived.Test.YtpggbbjhbklamaaSp
import Derived.Test.YtpggbbjhbklamaaGetB
namespace Go.Proofs.Ytpggbbjhbklamaa
open Go.RowKit

theorem sameB_any (v u : Value) (l m : List Int) (w : World) (hv : Rb w v l) (hu : Rb w u m) : Calls Try.prog 11 #[v, u] w (SameP w (decide (l = m))) := by
  have h1 := rb_text hv (P := Try.prog) 26 9 5 Try.underlying26 Try.underlying5 Try.underlying9
  have h2 := rb_text hu (P := Try.prog) 26 9 5 Try.underlying26 Try.underlying5 Try.underlying9
  have h3 := str_inj hv.byt hu.byt
  clear hv hu
  go_enter Try.func11, Try.ntmps11
  go_wp2_with fail
  go_ret
  exact ⟨rfl, rfl⟩
/-- a copy of its own -/
def Own1 (l : List Int) (n : Nat) (w : World) (en : Ending) (w' : World) : Prop := ∃ a c, en = .returned (.slice a n c) ∧ Sp w w' [.row (.slice a n c) 5 1 n (bts l)]
theorem take_snoc1 {l : List Int} {k : Nat} (h : k < l.length) : l.take (k + 1) = l.take k ++ [gt l k] := by
  rw [List.take_add_one, List.getElem?_eq_getElem h, gt_eq h]; rfl
set_option maxHeartbeats 1000000 in
theorem ownB_any (v : Value) (l : List Int) (w : World) (h : Rb w v l) (hl : l.length ≤ 140737488355328) : Calls Try.prog 8 #[v] w (Own1 l l.length w) := by
  have HB := hid h
  have YB := h.byt
  obtain ⟨ad, cd, rfl, hcd, hmd, hz⟩ := h.open
  unfold maxLen at hmd
  have S : Hid (Sp w w [.row (.slice none 0 0) 5 1 0 (bts [])]) := hid ((Sp.refl w).nilrow 5 1)
  have P := hid (fun w' a c (hS : Sp w w' [.row (.slice a l.length c) 5 1 l.length (bts l)]) => (show Own1 l l.length w (.returned (.slice a l.length c)) w' from ⟨a, c, rfl, hS⟩))
  clear h
  have w' := w
  go_enter Try.func8, Try.ntmps8
  go_upto_region 3 with fail
  go_loopw [3, 4] (fun cv iv wr => ∃ k a c, k ≤ l.length ∧ cv = .slice a k c ∧ iv = .int .i64 (k : Int) ∧ Sp w wr [.row (.slice a k c) 5 1 k (bts (l.take k))]) (fun _ iv _ => (l.length - intOf iv).toNat)
  · exact ⟨0, none, 0, by omega, rfl, rfl, S.out⟩
  · obtain ⟨k, a, c, hk, rfl, rfl, hS⟩ := hrel
    replace S := hid hS
    clear hS
    have w' := wr
    by_cases hlt : k < l.length
    · obtain ⟨bk, off, rfl, _⟩ := hz.resolve_left (by omega)
      have TS := hid (take_snoc1 hlt)
      have yk := YB.bd k
      have y3 : IntKind.i64.wrap ((k : Int) + 1) = (k : Int) + 1 := IntWalk.i64_in _ (by omega)
      have hd : decide ((k : Int) < (l.length : Int)) = true := by simp; omega
      go_wp2_with (first
        | go_skip
        | (((with_reducible show wpList _ _ _ (_ :: _) _ (World.alloc _ (.cells _ 5))); refine wpList_world fun w' hw2 => ?_; (first | (replace S := hid (S.out.lit (l := []) (n := 0) hw2 rfl rfl (by decide))) | (replace S := hid (S.out.lit (l := [_]) (n := 1) hw2 rfl rfl (by decide))) | (replace S := hid (S.out.lit (l := [_, _]) (n := 2) hw2 rfl rfl (by decide))) | (replace S := hid (S.out.lit (l := [_, _, _]) (n := 3) hw2 rfl rfl (by decide))) | (replace S := hid (S.out.lit (l := [_, _, _, _]) (n := 4) hw2 rfl rfl (by decide)))); clear hw2))
        | ((with_reducible show wpList _ _ _ _ _ _)
           first
           | (have HR := hid (HB.out.below S.out.bel); (with_reducible show wpList _ _ _ (⟨_, .load _ _, _, _, _, _⟩ :: _) _ _); refine wpList_get_rb (by rfl) _ rfl HR.out k _ rfl rfl hlt ?_)
           | (at_builtin; refine wpList_grow (by rfl) _ _ rfl S.out 1 rfl rfl _ [gt l k] rfl (S.out.rb 0 rfl (Byt.one yk.1 yk.2)) (k + 1) (by simp) (by omega) ?_; rintro a2 c2 w' hS; simp only [List.set_cons_zero, List.set_cons_succ] at hS; rw [← TS.out] at hS; replace S := hid (hS.sub (List.sublist_cons_self _ _)); clear hS)))
      go_roundw
      case rel => exact ⟨k + 1, a2, c2, by omega, rfl, by simp, S.out⟩
      case measure => simp [intOf]; omega
    · obtain rfl : k = l.length := by omega
      have hd : decide ((l.length : Int) < (l.length : Int)) = false := by simp
      rw [List.take_length] at S
      go_wp2_with fail
      go_ret
      exact P.out _ _ _ S.out
end Go.Proofs.Ytpggbbjhbklamaa
