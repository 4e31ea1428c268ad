/-
  The statements' own helpers: bytes and packets compared, copied.
-/
import Derived.Test.YtaecfcaeopmiaaaDoorStr
import Derived.Test.YtaecfcaeopmiaaaDoorSp
import Derived.Test.YtaecfcaeopmiaaaDoorGetB
import Derived.Test.YtaecfcaeopmiaaaDoorPl4
namespace Go.Proofs.YtaecfcaeopmiaaaDoor
open Go.RowKit

theorem sameB_any (v u : Value) (l m : List Int) (w : World) (hv : Rb w v l) (hu : Rb w u m) : Calls Tryd.prog 16 #[v, u] w (SameP w (decide (l = m))) := by
  have h1 := rb_text hv (P := Tryd.prog) 22 9 5 Tryd.underlying22 Tryd.underlying5 Tryd.underlying9
  have h2 := rb_text hu (P := Tryd.prog) 22 9 5 Tryd.underlying22 Tryd.underlying5 Tryd.underlying9
  have h3 := str_inj hv.byt hu.byt
  clear hv hu
  go_enter Tryd.func16, Tryd.ntmps16
  go_wp2_with fail
  go_ret
  exact ⟨rfl, rfl⟩
/-- a copy of its own -/
def Own1 (l : List Int) (n : Nat) (w : World) (en : Ending) (w' : World) : Prop := ∃ a c, en = .returned (.slice a n c) ∧ Sp w w' [.row (.slice a n c) 5 1 n (bts l)]
theorem take_snoc1 {l : List Int} {k : Nat} (h : k < l.length) : l.take (k + 1) = l.take k ++ [gt l k] := by
  rw [List.take_add_one, List.getElem?_eq_getElem h, gt_eq h]; rfl
set_option maxHeartbeats 1000000 in
theorem ownB_any (v : Value) (l : List Int) (w : World) (h : Rb w v l) (hl : l.length ≤ 140737488355328) : Calls Tryd.prog 12 #[v] w (Own1 l l.length w) := by
  have HB := hid h
  have YB := h.byt
  obtain ⟨ad, cd, rfl, hcd, hmd, hz⟩ := h.open
  unfold maxLen at hmd
  have S : Hid (Sp w w [.row (.slice none 0 0) 5 1 0 (bts [])]) := hid ((Sp.refl w).nilrow 5 1)
  have P := hid (fun w' a c (hS : Sp w w' [.row (.slice a l.length c) 5 1 l.length (bts l)]) => (show Own1 l l.length w (.returned (.slice a l.length c)) w' from ⟨a, c, rfl, hS⟩))
  clear h
  have w' := w
  go_enter Tryd.func12, Tryd.ntmps12
  go_upto_region 3 with fail
  go_loopw [3, 4] (fun cv iv wr => ∃ k a c, k ≤ l.length ∧ cv = .slice a k c ∧ iv = .int .i64 (k : Int) ∧ Sp w wr [.row (.slice a k c) 5 1 k (bts (l.take k))]) (fun _ iv _ => (l.length - intOf iv).toNat)
  · exact ⟨0, none, 0, by omega, rfl, rfl, S.out⟩
  · obtain ⟨k, a, c, hk, rfl, rfl, hS⟩ := hrel
    replace S := hid hS
    clear hS
    have w' := wr
    by_cases hlt : k < l.length
    · obtain ⟨bk, off, rfl, _⟩ := hz.resolve_left (by omega)
      have TS := hid (take_snoc1 hlt)
      have yk := YB.bd k
      have y3 : IntKind.i64.wrap ((k : Int) + 1) = (k : Int) + 1 := IntWalk.i64_in _ (by omega)
      have hd : decide ((k : Int) < (l.length : Int)) = true := by simp; omega
      go_wp2_with (first
        | go_skip
        | (((with_reducible show wpList _ _ _ (_ :: _) _ (World.alloc _ (.cells _ 5))); refine wpList_world fun w' hw2 => ?_; (first | (replace S := hid (S.out.lit (l := []) (n := 0) hw2 rfl rfl (by decide))) | (replace S := hid (S.out.lit (l := [_]) (n := 1) hw2 rfl rfl (by decide))) | (replace S := hid (S.out.lit (l := [_, _]) (n := 2) hw2 rfl rfl (by decide))) | (replace S := hid (S.out.lit (l := [_, _, _]) (n := 3) hw2 rfl rfl (by decide))) | (replace S := hid (S.out.lit (l := [_, _, _, _]) (n := 4) hw2 rfl rfl (by decide)))); clear hw2))
        | ((with_reducible show wpList _ _ _ _ _ _)
           first
           | (have HR := hid (HB.out.below S.out.bel); (with_reducible show wpList _ _ _ (⟨_, .load _ _, _, _, _, _⟩ :: _) _ _); refine wpList_get_rb (by rfl) _ rfl HR.out k _ rfl rfl hlt ?_)
           | (at_builtin; refine wpList_grow (by rfl) _ _ rfl S.out 1 rfl rfl _ [gt l k] rfl (S.out.rb 0 rfl (Byt.one yk.1 yk.2)) (k + 1) (by simp) (by omega) ?_; rintro a2 c2 w' hS; simp only [List.set_cons_zero, List.set_cons_succ] at hS; rw [← TS.out] at hS; replace S := hid (hS.sub (List.sublist_cons_self _ _)); clear hS)))
      go_roundw
      case rel => exact ⟨k + 1, a2, c2, by omega, rfl, by simp, S.out⟩
      case measure => simp [intOf]; omega
    · obtain rfl : k = l.length := by omega
      have hd : decide ((l.length : Int) < (l.length : Int)) = false := by simp
      rw [List.take_length] at S
      go_wp2_with fail
      go_ret
      exact P.out _ _ _ S.out
/-- a packet with lists of its own -/
def OwnQ (q : Pk) (lo ld : List Int) (n m : Nat) (w : World) (en : Ending) (w' : World) : Prop :=
  ∃ so co sx cx, en = .returned (.agg (pkC (pkO q (.slice so n co) (.slice sx m cx)))) ∧ Sp w w' [.row (.slice sx m cx) 5 1 m (bts ld), .row (.slice so n co) 5 1 n (bts lo)]
set_option maxHeartbeats 1000000 in
theorem ownP_any (p : Pk) (lo ld : List Int) (w : World) (h : Pin w p lo ld) (hl : lo.length ≤ 140737488355328 ∧ ld.length ≤ 140737488355328) : Calls Tryd.prog 26 #[.agg (pkC p)] w (OwnQ p lo ld lo.length ld.length w) := by
  have PI := hid h
  have OO := hid (fun W v (hv : Rb W v lo) => ownB_any v lo W hv hl.1)
  have OX := hid (fun W v (hv : Rb W v ld) => ownB_any v ld W hv hl.2)
  have L1 := h.pk.src.len
  have L2 := h.pk.dst.len
  have o1 := h.pk.o1
  have x1 := h.pk.x1
  have S : Hid (Sp w ((w.alloc (.cells (pkC p) 30)).alloc (.cells #[.int .i64 0, .int .i64 0, .int .i64 0, .int .i64 0, .int .u8 0, .int .u8 0, .int .u8 0, .int .u8 0, .int .u8 0, .int .u8 0, .int .u8 0, .int .u8 0, .int .u8 0, .int .u8 0, .int .u8 0, .int .u8 0, .int .u8 0, .int .u8 0, .int .u8 0, .int .u8 0, .int .i64 0, .int .u8 0, .int .u8 0, .int .u8 0, .int .u8 0, .int .u8 0, .int .u8 0, .int .u8 0, .int .u8 0, .int .u8 0, .int .u8 0, .int .u8 0, .int .u8 0, .int .u8 0, .int .u8 0, .int .u8 0, .int .u8 0, .int .i64 0, .int .i64 0, .int .u32 0, .bool false, .bool false, .bool false, .int .i64 0, .slice none 0 0, .slice none 0 0] 30)) [.blk (w.heap.size + 1) (pkC pk0) 30, .blk w.heap.size (pkC p) 30]) := hid (Sp.in2 ..)
  clear h
  go_enter Tryd.func26, Tryd.ntmps26
  go_upto_region 1 with fail
  generalize (w.alloc _).alloc _ = w' at *
  generalize w.heap.size = b at *
  go_wp2_with (first
    | go_skip
    | ((with_reducible show wpList _ _ _ _ _ _)
       first
       | ((with_reducible show wpList _ _ _ (⟨_, .load 30 _, _, _, _, _⟩ :: _) _ _); first | (refine wpList_getW (by rfl) _ rfl S.out _ rfl 0 _ rfl (by first | rfl | assumption) (by first | rfl | assumption) ?_) | (refine wpList_getW (by rfl) _ rfl S.out _ rfl 1 _ rfl (by first | rfl | assumption) (by first | rfl | assumption) ?_) | (refine wpList_getW (by rfl) _ rfl S.out _ rfl 2 _ rfl (by first | rfl | assumption) (by first | rfl | assumption) ?_) | (refine wpList_getW (by rfl) _ rfl S.out _ rfl 3 _ rfl (by first | rfl | assumption) (by first | rfl | assumption) ?_) | (refine wpList_getW (by rfl) _ rfl S.out _ rfl 4 _ rfl (by first | rfl | assumption) (by first | rfl | assumption) ?_) | (refine wpList_getW (by rfl) _ rfl S.out _ rfl 5 _ rfl (by first | rfl | assumption) (by first | rfl | assumption) ?_))
       | ((with_reducible show wpList _ _ _ (⟨some 4, _, _, _, _, _⟩ :: _) _ _); refine wpList_get_pk (by rfl) _ _ rfl S.out _ _ rfl 1 _ rfl p.ov (by rfl) (by rfl) L1 L2 ?_)
       | ((with_reducible show wpList _ _ _ (⟨some 8, _, _, _, _, _⟩ :: _) _ _); refine wpList_get_pk (by rfl) _ _ rfl S.out _ _ rfl 2 _ rfl p.xv (by rfl) (by rfl) L1 L2 ?_)
       | ((with_reducible show wpList _ _ _ (⟨_, .store _ _ _, _, _, _, _⟩ :: _) _ _); first | (first | (refine wpList_put_pk (by rfl) _ _ _ rfl rfl S.out _ _ rfl 0 _ rfl _ rfl _ rfl (by rfl) (by first | rfl | assumption) (by first | rfl | assumption) ?_; intro w' hS; simp only [List.set] at hS; replace S := hid hS; clear hS) | (refine wpList_put_pk (by rfl) _ _ _ rfl rfl S.out _ _ rfl 1 _ rfl _ rfl _ rfl (by rfl) (by first | rfl | assumption) (by first | rfl | assumption) ?_; intro w' hS; simp only [List.set] at hS; replace S := hid hS; clear hS) | (refine wpList_put_pk (by rfl) _ _ _ rfl rfl S.out _ _ rfl 2 _ rfl _ rfl _ rfl (by rfl) (by first | rfl | assumption) (by first | rfl | assumption) ?_; intro w' hS; simp only [List.set] at hS; replace S := hid hS; clear hS) | (refine wpList_put_pk (by rfl) _ _ _ rfl rfl S.out _ _ rfl 3 _ rfl _ rfl _ rfl (by rfl) (by first | rfl | assumption) (by first | rfl | assumption) ?_; intro w' hS; simp only [List.set] at hS; replace S := hid hS; clear hS) | (refine wpList_put_pk (by rfl) _ _ _ rfl rfl S.out _ _ rfl 4 _ rfl _ rfl _ rfl (by rfl) (by first | rfl | assumption) (by first | rfl | assumption) ?_; intro w' hS; simp only [List.set] at hS; replace S := hid hS; clear hS) | (refine wpList_put_pk (by rfl) _ _ _ rfl rfl S.out _ _ rfl 5 _ rfl _ rfl _ rfl (by rfl) (by first | rfl | assumption) (by first | rfl | assumption) ?_; intro w' hS; simp only [List.set] at hS; replace S := hid hS; clear hS)) | (refine wpList_putW (by rfl) _ _ rfl rfl S.out _ rfl 2 _ rfl _ rfl (by first | rfl | assumption) (by first | rfl | assumption) (by first | rfl | assumption) (by first | rfl | assumption) rfl rfl ?_; intro w' hS; simp only [List.set] at hS; replace S := hid hS; clear hS)))
    | (go_at_call 12; first
       | ((have M3 := M2); refine (OX.out _ _ (PI.out.below S.out.bel).xR).mono ?_; rintro en w' ⟨sx, cx, rfl, hS⟩; replace hS := S.out.call hS; simp only [List.cons_append, List.nil_append] at hS; replace S := hid hS; clear hS)
       | (refine (OO.out _ _ (PI.out.below S.out.bel).oR).mono ?_; have M2 := True.intro; rintro en w' ⟨so, co, rfl, hS⟩; replace hS := S.out.call hS; simp only [List.cons_append, List.nil_append] at hS; replace S := hid hS; clear hS)))
  exact post_pk1 Tryd.results26 rfl _ _ rfl (S.out.pk 2 rfl) L1 L2 ⟨so, co, sx, cx, rfl, S.out.sub (by repeat (first | exact List.Sublist.refl _ | exact List.nil_sublist _ | apply List.Sublist.cons_cons | apply List.Sublist.cons))⟩
end Go.Proofs.YtaecfcaeopmiaaaDoor
