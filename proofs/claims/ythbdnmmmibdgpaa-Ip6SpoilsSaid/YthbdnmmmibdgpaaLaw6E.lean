/-
  The statement Ip6Spoils, walked.
-/
import Derived.Test.YthbdnmmmibdgpaaLaw6B
namespace Go.Proofs.Ythbdnmmmibdgpaa
open Go.RowKit

/-- a packet that may not be laid, with its two lists as rows of the call's own -/
def Spoilt (w : World) (b : Nat) (w' : World) : Prop :=
  ∃ (q : Pk) (lo ld : List Int) (so : Option Go.Addr) (co : Nat) (sx : Option Go.Addr) (cx : Nat), IsPk q ∧ Byt lo ∧ Byt ld ∧ lo.length ≤ 1000 ∧ ld.length ≤ 66000 ∧ q.ov = .slice so lo.length co ∧ q.xv = .slice sx ld.length cx ∧ right6 q lo.length ld.length = false ∧
    Sp w w' [.row (.slice so lo.length co) 5 1 lo.length (bts lo), .row (.slice sx ld.length cx) 5 1 ld.length (bts ld), .blk b (pkC q) 28]
theorem i64_and15 (n : Int) : bits .and .i64 n 15 = n % 16 := i64_and_low n 4 15 (by decide) (by decide)
theorem u64_idx7 (x : Int) : ∃ j : Nat, j < 7 ∧ wrap64 ((IntKind.u64.wrap x).tmod 7) = (j : Int) := by
  have hx : 0 ≤ IntKind.u64.wrap x := wrap_u64_nonneg x
  refine ⟨(IntKind.u64.wrap x % 7).toNat, by omega, ?_⟩
  rw [Int.tmod_eq_emod_of_nonneg hx, w64_in (by omega) (by omega)]
  omega
def SpR1 (w : World) (q : Pk) (xs : List Int) (n b : Nat) (t : Value) (wc : World) : Prop :=
  ∃ (f : Int) (sx : Option Go.Addr) (cx : Nat), t = .int .i64 f ∧ (f < 0 ∨ 1048575 < f) ∧ Sp w wc [.row (.slice sx n cx) 5 1 n (bts xs), .blk b (pkC (pkX q (.slice none 0 0) (.slice sx n cx))) 28]
def pkY (q : Pk) (x : Value) : Pk := { q with ov := .slice none 0 0, xv := x, More := true }
def muB (b : Nat) (wr : World) : Nat := match wr.cell? ⟨b, 45, none⟩ with
  | some (.slice _ m _) => if m % 8 = 0 then 1 else 0
  | _ => 0
theorem muB_eq {b : Nat} {wr : World} {a : Option Go.Addr} {m c : Nat} (h : wr.cell? ⟨b, 45, none⟩ = some (.slice a m c)) : muB b wr = if m % 8 = 0 then 1 else 0 := by unfold muB; rw [h]
def SpL (w : World) (q : Pk) (n b : Nat) (wr : World) : Prop :=
  ∃ (m : Nat) (l : List Int) (sx : Option Go.Addr) (cx : Nat), (m = n + 1 ∨ (m = n + 2 ∧ (n + 1) % 8 = 0)) ∧ l.length = m ∧ Byt l ∧ Sp w wr [.row (.slice sx m cx) 5 1 m (bts l), .blk b (pkC (pkY q (.slice sx m cx))) 28]
set_option maxHeartbeats 1000000 in
set_option maxRecDepth 20000 in
theorem ip6Spoils_any (p : Pk) (lo ld : List Int) (hw a : Int) (w : World) (h : PkIn w p lo ld) (ha : -9223372036854775808 ≤ a ∧ a ≤ 9223372036854775807) :
    Calls Try.prog 7 #[.agg (pkC p), .int .i64 hw, .int .i64 a] w (APost w (.bool true)) := by
  have L1 := h.pin.pk.src.len
  have L2 := h.pin.pk.dst.len
  have PI := hid h.pin
  have LB := hid (And.intro h.lo h.ld)
  have FT := hid (fun W (hP : Pin W p lo ld) => fit_any_x p lo ld W hP LB.out)
  obtain ⟨q, xs, yx, hq, hov, hr, hxl, e1, e2⟩ := fit_q p lo ld w h.pin
  rw [← e1, ← e2] at FT
  clear e1 e2
  have L3 := hq.src.len
  have L4 := hq.dst.len
  generalize hn : xs.length = n at *
  have o1 := h.pin.pk.o1
  have x1 := h.pin.pk.x1
  have HR := hid hr
  have HQ := hid hq
  have P := hid (fun en w' (h1 : en = .returned (.bool true)) (h2 : Sp w w' []) => show APost w (.bool true) en w' from ⟨h1, h2.bel⟩)
  have S : Hid (Sp w (w.alloc (.cells (pkC p) 28)) [.blk w.heap.size (pkC p) 28]) := hid (Sp.in1 ..)
  clear h hr hq hxl hov
  go_enter Try.func7, Try.ntmps7
  go_upto_region 1 with fail
  generalize w.alloc (.cells (pkC p) 28) = w' at *
  generalize w.heap.size = b at *
  go_upto_region 6 with (first
    | go_skip
    | ((with_reducible show wpList _ _ _ _ _ _)
       first
       | ((with_reducible show wpList _ _ _ (⟨_, .load _ _, _, _, _, _⟩ :: _) _ _); first | (refine wpList_getW (by rfl) _ rfl S.out _ rfl 0 _ rfl (by first | rfl | assumption) (by first | rfl | assumption) ?_) | (refine wpList_getW (by rfl) _ rfl S.out _ rfl 1 _ rfl (by first | rfl | assumption) (by first | rfl | assumption) ?_) | (refine wpList_getW (by rfl) _ rfl S.out _ rfl 2 _ rfl (by first | rfl | assumption) (by first | rfl | assumption) ?_) | (refine wpList_getW (by rfl) _ rfl S.out _ rfl 3 _ rfl (by first | rfl | assumption) (by first | rfl | assumption) ?_) | (refine wpList_getW (by rfl) _ rfl S.out _ rfl 4 _ rfl (by first | rfl | assumption) (by first | rfl | assumption) ?_) | (refine wpList_getW (by rfl) _ rfl S.out _ rfl 5 _ rfl (by first | rfl | assumption) (by first | rfl | assumption) ?_))
       | ((with_reducible show wpList _ _ _ (⟨_, .store _ _ _, _, _, _, _⟩ :: _) _ _); first | (refine wpList_putW (by rfl) _ _ rfl rfl S.out _ rfl 0 _ rfl _ rfl (by first | rfl | assumption) (by first | rfl | assumption) (by first | rfl | assumption) (by first | rfl | assumption) (by first | rfl | assumption) (by first | rfl | assumption) ?_; intro w' hS; simp only [List.set] at hS; replace S := hid hS; clear hS) | (refine wpList_putW (by rfl) _ _ rfl rfl S.out _ rfl 1 _ rfl _ rfl (by first | rfl | assumption) (by first | rfl | assumption) (by first | rfl | assumption) (by first | rfl | assumption) (by first | rfl | assumption) (by first | rfl | assumption) ?_; intro w' hS; simp only [List.set] at hS; replace S := hid hS; clear hS) | (refine wpList_putW (by rfl) _ _ rfl rfl S.out _ rfl 2 _ rfl _ rfl (by first | rfl | assumption) (by first | rfl | assumption) (by first | rfl | assumption) (by first | rfl | assumption) (by first | rfl | assumption) (by first | rfl | assumption) ?_; intro w' hS; simp only [List.set] at hS; replace S := hid hS; clear hS) | (refine wpList_putW (by rfl) _ _ rfl rfl S.out _ rfl 3 _ rfl _ rfl (by first | rfl | assumption) (by first | rfl | assumption) (by first | rfl | assumption) (by first | rfl | assumption) (by first | rfl | assumption) (by first | rfl | assumption) ?_; intro w' hS; simp only [List.set] at hS; replace S := hid hS; clear hS) | (refine wpList_putW (by rfl) _ _ rfl rfl S.out _ rfl 4 _ rfl _ rfl (by first | rfl | assumption) (by first | rfl | assumption) (by first | rfl | assumption) (by first | rfl | assumption) (by first | rfl | assumption) (by first | rfl | assumption) ?_; intro w' hS; simp only [List.set] at hS; replace S := hid hS; clear hS)))
    | (go_at_call 10; refine (alive6_any _).mono ?_; rintro en w' ⟨rfl, hb⟩; replace S := hid (S.out.keep hb); clear hb)
    | (go_at_call 22; refine (FT.out _ (PI.out.below S.out.bel)).mono ?_; rintro en w' ⟨sx, cx, rfl, hS⟩; replace hS := S.out.call hS; simp only [List.cons_append, List.nil_append] at hS; replace S := hid hS; clear hS))
  (try simp only [Act.put, List.setIfInBounds_toArray, List.set_cons_zero, List.set_cons_succ])
  obtain ⟨bb, hbb⟩ : ∃ bb, bb = (decide (0 ≤ a) && decide (a ≤ 1048575)) := ⟨_, rfl⟩
  have BQ := hid hbb
  clear hbb
  go_cut [22] from 9 (fun t wc => t = .bool bb ∧ ∃ (sx : Option Go.Addr) (cx : Nat), Sp w wc [.row (.slice sx n cx) 5 1 n (bts xs), .blk b (pkC (pkX q (.slice none 0 0) (.slice sx n cx))) 28])
  case first =>
    go_wp2_with (first | go_skip | ((with_reducible show wpList _ _ _ _ _ _); (with_reducible show wpList _ _ _ (⟨_, .binOp _ _ _ _ _, _, _, _, _⟩ :: _) _ _); refine wpList_cmp (by rfl) _ (by rfl) _ _ _ _ rfl _ (by go_simp; exact rfl) ?_ ?_ <;> (intro hc; (try simp only [decide_eq_true_eq, decide_eq_false_iff_not, Int.not_lt] at hc); (try (simp at hc; done)); go_prune)))
    all_goals
      go_meet
      refine ⟨?_, sx, cx, S.out⟩
      rw [BQ.out]
      congr 1
      simp
      omega
  case rest =>
  clear S sx cx
  obtain ⟨rfl, sx, cx, hS⟩ := hcut
  have S := hid hS
  clear hS
  go_upto_if 22 with (first | go_skip)
  (try simp only [Act.put, List.setIfInBounds_toArray, List.set_cons_zero, List.set_cons_succ])
  go_cut [8] from 9 (fun t wc => SpR1 w q xs n b t wc)
  case first =>
    cases bb
    · have h1 := BQ.out
      go_wp2_with (first | go_skip)
      go_meet
      exact ⟨a, sx, cx, rfl, by simp at h1; omega, S.out⟩
    · have h1 := BQ.out
      simp at h1
      have s1 : IntKind.i64.wrap (a + 1048576) = a + 1048576 := IntWalk.i64_in _ (by omega)
      go_wp2_with (first | go_skip)
      go_meet
      exact ⟨a + 1048576, sx, cx, rfl, by omega, S.out⟩
  case rest =>
  clear S sx cx
  obtain ⟨f, sx, cx, rfl, hf, hS⟩ := hcut
  have S := hid hS
  clear hS
  go_upto_region 8 with fail
  obtain ⟨d, e15, hd⟩ : ∃ d : Int, bits .and .i64 hw 15 = d ∧ 0 ≤ d ∧ d ≤ 15 := ⟨_, i64_and15 hw, by omega⟩
  go_upto_block 0 with fail
  have D := hid hd
  have F := hid hf
  have RP := hid (right6_parts HR.out)
  have u7 : ∃ z : Int, wrap64 ((IntKind.u64.wrap a).tmod 7) = z ∧ 0 ≤ z ∧ z ≤ 6 := by
    obtain ⟨j, hj, ej⟩ := u64_idx7 a
    exact ⟨j, ej, by omega, by omega⟩
  obtain ⟨z7, e7, hz7⟩ := u7
  clear hd hf
  go_cut [] from 9 (fun wc => Spoilt w b wc)
  case first =>
    have hd := D.out
    have hd2 : d = 0 ∨ d = 1 ∨ d = 2 ∨ d = 3 ∨ d = 4 ∨ d = 5 ∨ d = 6 ∨ d = 7 ∨ d = 8 ∨ d = 9 ∨ d = 10 ∨ d = 11 ∨ d = 12 ∨ d = 13 ∨ d = 14 ∨ d = 15 := by omega
    clear hd
    rcases hd2 with rfl | rfl | rfl | rfl | rfl | rfl | rfl | rfl | rfl | rfl | rfl | rfl | rfl | rfl | rfl | rfl
    case inr.inr.inr.inr.inr.inr.inr.inr.inr.inr.inr.inr.inr.inl =>
      have hn2 := RP.out.2.2.2.2.2.2.1
      go_wp2_with (first
        | go_skip
        | (((with_reducible show wpList _ _ _ (_ :: _) _ (World.alloc _ (.cells _ 5))); refine wpList_world fun w' hw2 => ?_; (first | (replace S := hid (S.out.lit (l := []) (n := 0) hw2 rfl rfl (by decide))) | (replace S := hid (S.out.lit (l := [_]) (n := 1) hw2 rfl rfl (by decide))) | (replace S := hid (S.out.lit (l := [_, _]) (n := 2) hw2 rfl rfl (by decide))) | (replace S := hid (S.out.lit (l := [_, _, _]) (n := 3) hw2 rfl rfl (by decide))) | (replace S := hid (S.out.lit (l := [_, _, _, _]) (n := 4) hw2 rfl rfl (by decide)))); clear hw2))
        | ((with_reducible show wpList _ _ _ _ _ _)
           first
           | ((with_reducible show wpList _ _ _ (⟨_, .load _ _, _, _, _, _⟩ :: _) _ _); first | (first | (refine wpList_getW (by rfl) _ rfl S.out _ rfl 0 _ rfl (by first | rfl | assumption) (by first | rfl | assumption) ?_) | (refine wpList_getW (by rfl) _ rfl S.out _ rfl 1 _ rfl (by first | rfl | assumption) (by first | rfl | assumption) ?_) | (refine wpList_getW (by rfl) _ rfl S.out _ rfl 2 _ rfl (by first | rfl | assumption) (by first | rfl | assumption) ?_) | (refine wpList_getW (by rfl) _ rfl S.out _ rfl 3 _ rfl (by first | rfl | assumption) (by first | rfl | assumption) ?_) | (refine wpList_getW (by rfl) _ rfl S.out _ rfl 4 _ rfl (by first | rfl | assumption) (by first | rfl | assumption) ?_) | (refine wpList_getW (by rfl) _ rfl S.out _ rfl 5 _ rfl (by first | rfl | assumption) (by first | rfl | assumption) ?_)) | (first | (refine wpList_get_pk (by rfl) _ _ rfl S.out _ _ rfl 0 _ rfl _ rfl (by rfl) (by first | rfl | assumption) (by first | rfl | assumption) ?_) | (refine wpList_get_pk (by rfl) _ _ rfl S.out _ _ rfl 1 _ rfl _ rfl (by rfl) (by first | rfl | assumption) (by first | rfl | assumption) ?_) | (refine wpList_get_pk (by rfl) _ _ rfl S.out _ _ rfl 2 _ rfl _ rfl (by rfl) (by first | rfl | assumption) (by first | rfl | assumption) ?_) | (refine wpList_get_pk (by rfl) _ _ rfl S.out _ _ rfl 3 _ rfl _ rfl (by rfl) (by first | rfl | assumption) (by first | rfl | assumption) ?_) | (refine wpList_get_pk (by rfl) _ _ rfl S.out _ _ rfl 4 _ rfl _ rfl (by rfl) (by first | rfl | assumption) (by first | rfl | assumption) ?_) | (refine wpList_get_pk (by rfl) _ _ rfl S.out _ _ rfl 5 _ rfl _ rfl (by rfl) (by first | rfl | assumption) (by first | rfl | assumption) ?_)))
           | ((with_reducible show wpList _ _ _ (⟨_, .store _ _ _, _, _, _, _⟩ :: _) _ _); first | (first | (refine wpList_putW (by rfl) _ _ rfl rfl S.out _ rfl 0 _ rfl _ rfl (by first | rfl | assumption) (by first | rfl | assumption) (by first | rfl | assumption) (by first | rfl | assumption) (by first | rfl | assumption) (by first | rfl | assumption) ?_; intro w' hS; simp only [List.set] at hS; replace S := hid hS; clear hS) | (refine wpList_putW (by rfl) _ _ rfl rfl S.out _ rfl 1 _ rfl _ rfl (by first | rfl | assumption) (by first | rfl | assumption) (by first | rfl | assumption) (by first | rfl | assumption) (by first | rfl | assumption) (by first | rfl | assumption) ?_; intro w' hS; simp only [List.set] at hS; replace S := hid hS; clear hS) | (refine wpList_putW (by rfl) _ _ rfl rfl S.out _ rfl 2 _ rfl _ rfl (by first | rfl | assumption) (by first | rfl | assumption) (by first | rfl | assumption) (by first | rfl | assumption) (by first | rfl | assumption) (by first | rfl | assumption) ?_; intro w' hS; simp only [List.set] at hS; replace S := hid hS; clear hS) | (refine wpList_putW (by rfl) _ _ rfl rfl S.out _ rfl 3 _ rfl _ rfl (by first | rfl | assumption) (by first | rfl | assumption) (by first | rfl | assumption) (by first | rfl | assumption) (by first | rfl | assumption) (by first | rfl | assumption) ?_; intro w' hS; simp only [List.set] at hS; replace S := hid hS; clear hS) | (refine wpList_putW (by rfl) _ _ rfl rfl S.out _ rfl 4 _ rfl _ rfl (by first | rfl | assumption) (by first | rfl | assumption) (by first | rfl | assumption) (by first | rfl | assumption) (by first | rfl | assumption) (by first | rfl | assumption) ?_; intro w' hS; simp only [List.set] at hS; replace S := hid hS; clear hS)) | (first | (refine wpList_put_pk (by rfl) _ _ _ rfl rfl S.out _ _ rfl 0 _ rfl _ rfl _ rfl (by rfl) (by first | rfl | assumption) (by first | rfl | assumption) ?_; intro w' hS; simp only [List.set] at hS; replace S := hid hS; clear hS) | (refine wpList_put_pk (by rfl) _ _ _ rfl rfl S.out _ _ rfl 1 _ rfl _ rfl _ rfl (by rfl) (by first | rfl | assumption) (by first | rfl | assumption) ?_; intro w' hS; simp only [List.set] at hS; replace S := hid hS; clear hS) | (refine wpList_put_pk (by rfl) _ _ _ rfl rfl S.out _ _ rfl 2 _ rfl _ rfl _ rfl (by rfl) (by first | rfl | assumption) (by first | rfl | assumption) ?_; intro w' hS; simp only [List.set] at hS; replace S := hid hS; clear hS) | (refine wpList_put_pk (by rfl) _ _ _ rfl rfl S.out _ _ rfl 3 _ rfl _ rfl _ rfl (by rfl) (by first | rfl | assumption) (by first | rfl | assumption) ?_; intro w' hS; simp only [List.set] at hS; replace S := hid hS; clear hS) | (refine wpList_put_pk (by rfl) _ _ _ rfl rfl S.out _ _ rfl 4 _ rfl _ rfl _ rfl (by rfl) (by first | rfl | assumption) (by first | rfl | assumption) ?_; intro w' hS; simp only [List.set] at hS; replace S := hid hS; clear hS) | (refine wpList_put_pk (by rfl) _ _ _ rfl rfl S.out _ _ rfl 5 _ rfl _ rfl _ rfl (by rfl) (by first | rfl | assumption) (by first | rfl | assumption) ?_; intro w' hS; simp only [List.set] at hS; replace S := hid hS; clear hS)))
           | (at_builtin; refine wpList_grow (by rfl) _ _ rfl S.out 1 rfl rfl _ [1] rfl (S.out.rb 0 rfl (Byt.one (by decide) (by decide))) (n + 1) (by rfl) (by omega) ?_; rintro sx cx w' hS; simp only [List.set] at hS; replace S := hid (hS.sub (List.sublist_cons_self _ _)); clear hS)))
      have S1 := S.out
      clear S
      go_loopw [] (fun wr => SpL w q n b wr) (fun wr => muB b wr)
      case atStart => exact ⟨n + 1, _, _, _, .inl rfl, by simp [hn], yx.append (Byt.one (by decide) (by decide)), S1⟩
      case round =>
        obtain ⟨m, l, sx, cx, hm, hl, yl, hS⟩ := hrel
        have S := hid hS
        clear hS S1
        have MU := hid (muB_eq (((S.out.pk 1 rfl).cells L3 L4).c45))
        have L5 : (pkY q (.slice sx m cx)).sB.length = 16 := L3
        have L6 : (pkY q (.slice sx m cx)).dB.length = 16 := L4
        simp only [pkY] at S
        by_cases h8 : m % 8 = 0
        · have hm1 : m = n + 1 := by omega
          have hd8 : ((m : Int) % 8 == 0) = true := by simp; omega
          have MM := hid hm1
          have H8 := hid h8
          clear hm hm1 h8
          go_wp2_with (first
            | go_skip
            | (((with_reducible show wpList _ _ _ (_ :: _) _ (World.alloc _ (.cells _ 5))); refine wpList_world fun w' hw2 => ?_; (first | (replace S := hid (S.out.lit (l := []) (n := 0) hw2 rfl rfl (by decide))) | (replace S := hid (S.out.lit (l := [_]) (n := 1) hw2 rfl rfl (by decide))) | (replace S := hid (S.out.lit (l := [_, _]) (n := 2) hw2 rfl rfl (by decide))) | (replace S := hid (S.out.lit (l := [_, _, _]) (n := 3) hw2 rfl rfl (by decide))) | (replace S := hid (S.out.lit (l := [_, _, _, _]) (n := 4) hw2 rfl rfl (by decide)))); clear hw2))
            | ((with_reducible show wpList _ _ _ _ _ _)
               first
               | ((with_reducible show wpList _ _ _ (⟨_, .load _ _, _, _, _, _⟩ :: _) _ _); first | (first | (refine wpList_getW (by rfl) _ rfl S.out _ rfl 0 _ rfl (by first | rfl | assumption) (by first | rfl | assumption) ?_) | (refine wpList_getW (by rfl) _ rfl S.out _ rfl 1 _ rfl (by first | rfl | assumption) (by first | rfl | assumption) ?_) | (refine wpList_getW (by rfl) _ rfl S.out _ rfl 2 _ rfl (by first | rfl | assumption) (by first | rfl | assumption) ?_) | (refine wpList_getW (by rfl) _ rfl S.out _ rfl 3 _ rfl (by first | rfl | assumption) (by first | rfl | assumption) ?_) | (refine wpList_getW (by rfl) _ rfl S.out _ rfl 4 _ rfl (by first | rfl | assumption) (by first | rfl | assumption) ?_) | (refine wpList_getW (by rfl) _ rfl S.out _ rfl 5 _ rfl (by first | rfl | assumption) (by first | rfl | assumption) ?_)) | (first | (refine wpList_get_pk (by rfl) _ _ rfl S.out _ _ rfl 0 _ rfl _ rfl (by rfl) (by first | rfl | assumption) (by first | rfl | assumption) ?_) | (refine wpList_get_pk (by rfl) _ _ rfl S.out _ _ rfl 1 _ rfl _ rfl (by rfl) (by first | rfl | assumption) (by first | rfl | assumption) ?_) | (refine wpList_get_pk (by rfl) _ _ rfl S.out _ _ rfl 2 _ rfl _ rfl (by rfl) (by first | rfl | assumption) (by first | rfl | assumption) ?_) | (refine wpList_get_pk (by rfl) _ _ rfl S.out _ _ rfl 3 _ rfl _ rfl (by rfl) (by first | rfl | assumption) (by first | rfl | assumption) ?_) | (refine wpList_get_pk (by rfl) _ _ rfl S.out _ _ rfl 4 _ rfl _ rfl (by rfl) (by first | rfl | assumption) (by first | rfl | assumption) ?_) | (refine wpList_get_pk (by rfl) _ _ rfl S.out _ _ rfl 5 _ rfl _ rfl (by rfl) (by first | rfl | assumption) (by first | rfl | assumption) ?_)))
               | ((with_reducible show wpList _ _ _ (⟨_, .store _ _ _, _, _, _, _⟩ :: _) _ _); first | (first | (refine wpList_putW (by rfl) _ _ rfl rfl S.out _ rfl 0 _ rfl _ rfl (by first | rfl | assumption) (by first | rfl | assumption) (by first | rfl | assumption) (by first | rfl | assumption) (by first | rfl | assumption) (by first | rfl | assumption) ?_; intro w' hS; simp only [List.set] at hS; replace S := hid hS; clear hS) | (refine wpList_putW (by rfl) _ _ rfl rfl S.out _ rfl 1 _ rfl _ rfl (by first | rfl | assumption) (by first | rfl | assumption) (by first | rfl | assumption) (by first | rfl | assumption) (by first | rfl | assumption) (by first | rfl | assumption) ?_; intro w' hS; simp only [List.set] at hS; replace S := hid hS; clear hS) | (refine wpList_putW (by rfl) _ _ rfl rfl S.out _ rfl 2 _ rfl _ rfl (by first | rfl | assumption) (by first | rfl | assumption) (by first | rfl | assumption) (by first | rfl | assumption) (by first | rfl | assumption) (by first | rfl | assumption) ?_; intro w' hS; simp only [List.set] at hS; replace S := hid hS; clear hS) | (refine wpList_putW (by rfl) _ _ rfl rfl S.out _ rfl 3 _ rfl _ rfl (by first | rfl | assumption) (by first | rfl | assumption) (by first | rfl | assumption) (by first | rfl | assumption) (by first | rfl | assumption) (by first | rfl | assumption) ?_; intro w' hS; simp only [List.set] at hS; replace S := hid hS; clear hS) | (refine wpList_putW (by rfl) _ _ rfl rfl S.out _ rfl 4 _ rfl _ rfl (by first | rfl | assumption) (by first | rfl | assumption) (by first | rfl | assumption) (by first | rfl | assumption) (by first | rfl | assumption) (by first | rfl | assumption) ?_; intro w' hS; simp only [List.set] at hS; replace S := hid hS; clear hS)) | (first | (refine wpList_put_pk (by rfl) _ _ _ rfl rfl S.out _ _ rfl 0 _ rfl _ rfl _ rfl (by rfl) (by first | rfl | assumption) (by first | rfl | assumption) ?_; intro w' hS; simp only [List.set] at hS; replace S := hid hS; clear hS) | (refine wpList_put_pk (by rfl) _ _ _ rfl rfl S.out _ _ rfl 1 _ rfl _ rfl _ rfl (by rfl) (by first | rfl | assumption) (by first | rfl | assumption) ?_; intro w' hS; simp only [List.set] at hS; replace S := hid hS; clear hS) | (refine wpList_put_pk (by rfl) _ _ _ rfl rfl S.out _ _ rfl 2 _ rfl _ rfl _ rfl (by rfl) (by first | rfl | assumption) (by first | rfl | assumption) ?_; intro w' hS; simp only [List.set] at hS; replace S := hid hS; clear hS) | (refine wpList_put_pk (by rfl) _ _ _ rfl rfl S.out _ _ rfl 3 _ rfl _ rfl _ rfl (by rfl) (by first | rfl | assumption) (by first | rfl | assumption) ?_; intro w' hS; simp only [List.set] at hS; replace S := hid hS; clear hS) | (refine wpList_put_pk (by rfl) _ _ _ rfl rfl S.out _ _ rfl 4 _ rfl _ rfl _ rfl (by rfl) (by first | rfl | assumption) (by first | rfl | assumption) ?_; intro w' hS; simp only [List.set] at hS; replace S := hid hS; clear hS) | (refine wpList_put_pk (by rfl) _ _ _ rfl rfl S.out _ _ rfl 5 _ rfl _ rfl _ rfl (by rfl) (by first | rfl | assumption) (by first | rfl | assumption) ?_; intro w' hS; simp only [List.set] at hS; replace S := hid hS; clear hS)))
               | (at_builtin; refine wpList_grow (by rfl) _ _ rfl S.out 1 rfl rfl _ [1] rfl (S.out.rb 0 rfl (Byt.one (by decide) (by decide))) (m + 1) (by rfl) (by have := MM.out; omega) ?_; rintro sx cx w' hS; simp only [List.set] at hS; replace S := hid (hS.sub (List.sublist_cons_self _ _)); clear hS)))
          go_roundw
          case rel => exact ⟨m + 1, _, _, _, .inr ⟨by have := MM.out; omega, by have := MM.out; have := H8.out; omega⟩, by simp [hl], yl.append (Byt.one (by decide) (by decide)), S.out⟩
          case measure =>
            rw [MU.out, muB_eq (((S.out.pk 1 rfl).cells L3 L4).c45), if_pos H8.out, if_neg (by have := H8.out; omega)]
            omega
        · have hd8 : ((m : Int) % 8 == 0) = false := by simp; omega
          have M8 := hid h8
          have MM := hid (show m ≤ n + 2 by omega)
          clear hm h8
          go_wp2_with (first
            | go_skip
            | ((with_reducible show wpList _ _ _ _ _ _); ((with_reducible show wpList _ _ _ (⟨_, .load _ _, _, _, _, _⟩ :: _) _ _); first | (first | (refine wpList_getW (by rfl) _ rfl S.out _ rfl 0 _ rfl (by first | rfl | assumption) (by first | rfl | assumption) ?_) | (refine wpList_getW (by rfl) _ rfl S.out _ rfl 1 _ rfl (by first | rfl | assumption) (by first | rfl | assumption) ?_) | (refine wpList_getW (by rfl) _ rfl S.out _ rfl 2 _ rfl (by first | rfl | assumption) (by first | rfl | assumption) ?_) | (refine wpList_getW (by rfl) _ rfl S.out _ rfl 3 _ rfl (by first | rfl | assumption) (by first | rfl | assumption) ?_) | (refine wpList_getW (by rfl) _ rfl S.out _ rfl 4 _ rfl (by first | rfl | assumption) (by first | rfl | assumption) ?_) | (refine wpList_getW (by rfl) _ rfl S.out _ rfl 5 _ rfl (by first | rfl | assumption) (by first | rfl | assumption) ?_)) | (first | (refine wpList_get_pk (by rfl) _ _ rfl S.out _ _ rfl 0 _ rfl _ rfl (by rfl) (by first | rfl | assumption) (by first | rfl | assumption) ?_) | (refine wpList_get_pk (by rfl) _ _ rfl S.out _ _ rfl 1 _ rfl _ rfl (by rfl) (by first | rfl | assumption) (by first | rfl | assumption) ?_) | (refine wpList_get_pk (by rfl) _ _ rfl S.out _ _ rfl 2 _ rfl _ rfl (by rfl) (by first | rfl | assumption) (by first | rfl | assumption) ?_) | (refine wpList_get_pk (by rfl) _ _ rfl S.out _ _ rfl 3 _ rfl _ rfl (by rfl) (by first | rfl | assumption) (by first | rfl | assumption) ?_) | (refine wpList_get_pk (by rfl) _ _ rfl S.out _ _ rfl 4 _ rfl _ rfl (by rfl) (by first | rfl | assumption) (by first | rfl | assumption) ?_) | (refine wpList_get_pk (by rfl) _ _ rfl S.out _ _ rfl 5 _ rfl _ rfl (by rfl) (by first | rfl | assumption) (by first | rfl | assumption) ?_)))))
          go_meet
          subst hl
          refine ⟨_, [], l, none, 0, sx, cx, ?_, Byt.nil, yl, by decide, by have := MM.out; omega, rfl, rfl, ?_, (S.out.nilrow 5 1)⟩
          · exact ⟨HQ.out.src, HQ.out.dst, HQ.out.id0, HQ.out.id1, rfl, rfl⟩
          · have m8 := M8.out
            clear S MU
            refine Bool.eq_false_iff.2 fun hc => ?_
            obtain ⟨-, v1, v2, v3, v4, v5, v6, v7, v8⟩ := right6_parts hc
            clear hc
            cases hf : q.Frag
            · have := (v8 hf).2.2
              cases this
            · exact m8 ((v7 hf).2.2 rfl)
    all_goals (
    go_wp2_with (first
      | go_skip
      | (((with_reducible show wpList _ _ _ (_ :: _) _ (World.alloc _ (.cells _ 5))); refine wpList_world fun w' hw2 => ?_; (first | (replace S := hid (S.out.lit (l := []) (n := 0) hw2 rfl rfl (by decide))) | (replace S := hid (S.out.lit (l := [_]) (n := 1) hw2 rfl rfl (by decide))) | (replace S := hid (S.out.lit (l := [_, _]) (n := 2) hw2 rfl rfl (by decide))) | (replace S := hid (S.out.lit (l := [_, _, _]) (n := 3) hw2 rfl rfl (by decide))) | (replace S := hid (S.out.lit (l := [_, _, _, _]) (n := 4) hw2 rfl rfl (by decide)))); clear hw2))
      | ((with_reducible show wpList _ _ _ _ _ _)
         first
         | (refine wpList_put_dst (by rfl) _ _ rfl rfl S.out _ rfl 1 _ rfl 0 zB rfl rfl (by first | rfl | assumption) (by first | rfl | assumption) ?_; intro w' hS; simp only [List.set] at hS; replace S := hid hS; clear hS)
         | ((with_reducible show wpList _ _ _ (⟨_, .load _ _, _, _, _, _⟩ :: _) _ _); first | (first | (refine wpList_getW (by rfl) _ rfl S.out _ rfl 0 _ rfl (by first | rfl | assumption) (by first | rfl | assumption) ?_) | (refine wpList_getW (by rfl) _ rfl S.out _ rfl 1 _ rfl (by first | rfl | assumption) (by first | rfl | assumption) ?_) | (refine wpList_getW (by rfl) _ rfl S.out _ rfl 2 _ rfl (by first | rfl | assumption) (by first | rfl | assumption) ?_) | (refine wpList_getW (by rfl) _ rfl S.out _ rfl 3 _ rfl (by first | rfl | assumption) (by first | rfl | assumption) ?_) | (refine wpList_getW (by rfl) _ rfl S.out _ rfl 4 _ rfl (by first | rfl | assumption) (by first | rfl | assumption) ?_) | (refine wpList_getW (by rfl) _ rfl S.out _ rfl 5 _ rfl (by first | rfl | assumption) (by first | rfl | assumption) ?_)) | (first | (refine wpList_get_pk (by rfl) _ _ rfl S.out _ _ rfl 0 _ rfl _ rfl (by rfl) (by first | rfl | assumption) (by first | rfl | assumption) ?_) | (refine wpList_get_pk (by rfl) _ _ rfl S.out _ _ rfl 1 _ rfl _ rfl (by rfl) (by first | rfl | assumption) (by first | rfl | assumption) ?_) | (refine wpList_get_pk (by rfl) _ _ rfl S.out _ _ rfl 2 _ rfl _ rfl (by rfl) (by first | rfl | assumption) (by first | rfl | assumption) ?_) | (refine wpList_get_pk (by rfl) _ _ rfl S.out _ _ rfl 3 _ rfl _ rfl (by rfl) (by first | rfl | assumption) (by first | rfl | assumption) ?_) | (refine wpList_get_pk (by rfl) _ _ rfl S.out _ _ rfl 4 _ rfl _ rfl (by rfl) (by first | rfl | assumption) (by first | rfl | assumption) ?_) | (refine wpList_get_pk (by rfl) _ _ rfl S.out _ _ rfl 5 _ rfl _ rfl (by rfl) (by first | rfl | assumption) (by first | rfl | assumption) ?_)))
         | ((with_reducible show wpList _ _ _ (⟨_, .store _ _ _, _, _, _, _⟩ :: _) _ _); first | (first | (refine wpList_putW (by rfl) _ _ rfl rfl S.out _ rfl 0 _ rfl _ rfl (by first | rfl | assumption) (by first | rfl | assumption) (by first | rfl | assumption) (by first | rfl | assumption) (by first | rfl | assumption) (by first | rfl | assumption) ?_; intro w' hS; simp only [List.set] at hS; replace S := hid hS; clear hS) | (refine wpList_putW (by rfl) _ _ rfl rfl S.out _ rfl 1 _ rfl _ rfl (by first | rfl | assumption) (by first | rfl | assumption) (by first | rfl | assumption) (by first | rfl | assumption) (by first | rfl | assumption) (by first | rfl | assumption) ?_; intro w' hS; simp only [List.set] at hS; replace S := hid hS; clear hS) | (refine wpList_putW (by rfl) _ _ rfl rfl S.out _ rfl 2 _ rfl _ rfl (by first | rfl | assumption) (by first | rfl | assumption) (by first | rfl | assumption) (by first | rfl | assumption) (by first | rfl | assumption) (by first | rfl | assumption) ?_; intro w' hS; simp only [List.set] at hS; replace S := hid hS; clear hS) | (refine wpList_putW (by rfl) _ _ rfl rfl S.out _ rfl 3 _ rfl _ rfl (by first | rfl | assumption) (by first | rfl | assumption) (by first | rfl | assumption) (by first | rfl | assumption) (by first | rfl | assumption) (by first | rfl | assumption) ?_; intro w' hS; simp only [List.set] at hS; replace S := hid hS; clear hS) | (refine wpList_putW (by rfl) _ _ rfl rfl S.out _ rfl 4 _ rfl _ rfl (by first | rfl | assumption) (by first | rfl | assumption) (by first | rfl | assumption) (by first | rfl | assumption) (by first | rfl | assumption) (by first | rfl | assumption) ?_; intro w' hS; simp only [List.set] at hS; replace S := hid hS; clear hS)) | (first | (refine wpList_put_pk (by rfl) _ _ _ rfl rfl S.out _ _ rfl 0 _ rfl _ rfl _ rfl (by rfl) (by first | rfl | assumption) (by first | rfl | assumption) ?_; intro w' hS; simp only [List.set] at hS; replace S := hid hS; clear hS) | (refine wpList_put_pk (by rfl) _ _ _ rfl rfl S.out _ _ rfl 1 _ rfl _ rfl _ rfl (by rfl) (by first | rfl | assumption) (by first | rfl | assumption) ?_; intro w' hS; simp only [List.set] at hS; replace S := hid hS; clear hS) | (refine wpList_put_pk (by rfl) _ _ _ rfl rfl S.out _ _ rfl 2 _ rfl _ rfl _ rfl (by rfl) (by first | rfl | assumption) (by first | rfl | assumption) ?_; intro w' hS; simp only [List.set] at hS; replace S := hid hS; clear hS) | (refine wpList_put_pk (by rfl) _ _ _ rfl rfl S.out _ _ rfl 3 _ rfl _ rfl _ rfl (by rfl) (by first | rfl | assumption) (by first | rfl | assumption) ?_; intro w' hS; simp only [List.set] at hS; replace S := hid hS; clear hS) | (refine wpList_put_pk (by rfl) _ _ _ rfl rfl S.out _ _ rfl 4 _ rfl _ rfl _ rfl (by rfl) (by first | rfl | assumption) (by first | rfl | assumption) ?_; intro w' hS; simp only [List.set] at hS; replace S := hid hS; clear hS) | (refine wpList_put_pk (by rfl) _ _ _ rfl rfl S.out _ _ rfl 5 _ rfl _ rfl _ rfl (by rfl) (by first | rfl | assumption) (by first | rfl | assumption) ?_; intro w' hS; simp only [List.set] at hS; replace S := hid hS; clear hS))))))
    all_goals
      go_meet
      obtain ⟨⟨r1, r2, r3, r4, -, r6⟩, t1, t2, t3, t4, t5, t6, t7, t8⟩ := RP.out
      have q1 := HQ.out.src
      have q2 := HQ.out.dst
      have i0 := HQ.out.id0
      have i1 := HQ.out.id1
      have hff := F.out
      subst hn
    all_goals first
      | (refine ⟨_, [], xs, none, 0, sx, cx, ?_, Byt.nil, yx, by decide, by omega, rfl, rfl, ?_, (S.out.nilrow 5 1)⟩)
      | (refine ⟨_, [], [], none, 0, none, 0, ?_, Byt.nil, Byt.nil, by decide, by decide, rfl, rfl, ?_, ((S.out.sub (List.sublist_cons_self _ _)).nilrow 5 1).nilrow 5 1⟩)
      | (refine ⟨_, [1, 1, 1, 1], xs, _, _, sx, cx, ?_, lit_bytes (by decide), yx, by decide, by omega, rfl, rfl, ?_, S.out⟩)
    all_goals first
      | (refine ⟨by first | exact q1 | exact ⟨q1.len, q1.byt, by simp, by simp⟩, by first | exact q2 | exact zB_is 0 (by decide) (by decide), by first | exact i0 | simp, by first | exact i1 | simp, rfl, rfl⟩)
      | skip
    all_goals (
    clear S q1 q2 i0 i1 yx
    refine Bool.eq_false_iff.2 fun hc => ?_
    obtain ⟨⟨s1, s2, s3, s4, s5, s6⟩, v1, v2, v3, v4, v5, v6, v7, v8⟩ := right6_parts hc
    clear hc
    simp only [pkX] at s1 s2 s3 s4 s5 s6 v1 v2 v3 v4 v5 v6 v7 v8
    first
    | omega
    | cases s4
    | (simp at s5; done)
    | (have h8 := v8 trivial; omega)
    | (have h7 := (v7 trivial).2.1 rfl; omega)
    | (have e9 : wrap64 (wrap64 (q.Off + 1) + z7) = q.Off + 1 + z7 := by rw [w64_in (x := q.Off + 1) (by omega) (by omega), w64_in (by omega) (by omega)]
       rw [e9] at v5
       clear v7 v8 e9
       omega))
  case rest =>
  clear S sx cx F D
  obtain ⟨q', lo', ld', so, co, sx, cx, hq', yl, yd, hl1, hl2, hov, hxv, hr', hS⟩ := hcut
  have S := hid hS
  have L5 := hq'.src.len
  have L6 := hq'.dst.len
  have OO : q'.ov.oneCell' = true := by rw [hov]; rfl
  have OX : q'.xv.oneCell' = true := by rw [hxv]; rfl
  have PQ := hid (show Pin wc q' lo' ld' from ⟨hq', by rw [hov]; exact S.out.rb 0 rfl yl, by rw [hxv]; exact S.out.rb 1 rfl yd⟩)
  have OW := hid (fun W (hP : Pin W q' lo' ld') => own6_any q' lo' ld' W hP ⟨by omega, by omega⟩)
  have BD := hid (fun W o x (hP : Pin W (pkX q' o x) lo' ld') => (show Calls Try.prog 11 #[.agg (pkC (pkX q' o x))] W (BB 1 0 [] W) from (build6_no (pkX q' o x) lo' ld' W hP hr').mono fun _ _ h => h.bb rfl))
  have RT := hid (fun W o x (hP : Pin W (pkX q' o x) lo' ld') => (show Calls Try.prog 15 #[.agg (pkC (pkX q' o x))] W (APost W (.bool false)) from by
    have := right6_any (pkX q' o x) lo' ld' W hP
    rwa [show right6 (pkX q' o x) lo'.length ld'.length = false from hr'] at this))
  have HD := hid (fun W o x (hP : Pin W (pkX q' o x) lo' ld') => (show Calls Try.prog 17 #[.agg (pkC (pkX q' o x))] W (APost W (.int .i64 0)) from by
    have := Head6_any (pkX q' o x) lo' ld' W hP
    rwa [show right6 (pkX q' o x) lo'.length ld'.length = false from hr'] at this))
  have YL := hid yl
  have YD := hid yd
  have HQ2 := hid hq'
  have B0 := hid (Below.refl wc.heap.size wc)
  clear hS hl1 hl2 hov hxv hr' hq' yl yd e7 hz7 e15 RP HR HQ
  go_wp2_with (first
    | go_skip
    | ((with_reducible show wpList _ _ _ _ _ _); ((with_reducible show wpList _ _ _ (⟨_, .load _ _, _, _, _, _⟩ :: _) _ _); refine wpList_getW (by rfl) _ rfl S.out _ rfl 2 q' rfl L5 L6 ?_))
    | (go_at_call 12; refine (OW.out _ (PQ.out.below B0.out)).mono ?_; rintro en w' ⟨s1, c1, s2, c2, rfl, hS2⟩; have P2 := hid (own_pin HQ2.out YL.out YD.out hS2); replace S := hid (S.out.keep hS2.bel); replace B0 := hid (B0.out.trans (hS2.bel.mono B0.out.size)); clear hS2)
    | (go_at_call 11; refine (BD.out _ _ _ P2.out).mono ?_; clear P2; rintro en w' ⟨s1, c1, rfl, hS2⟩; replace S := hid (S.out.keep hS2.bel); replace B0 := hid (B0.out.trans (hS2.bel.mono B0.out.size)); clear hS2)
    | (go_at_call 15; refine (RT.out _ _ _ P2.out).mono ?_; clear P2; rintro en w' ⟨rfl, hb⟩; replace S := hid (S.out.keep hb); replace B0 := hid (B0.out.trans (hb.mono B0.out.size)); clear hb)
    | (go_at_call 17; refine (HD.out _ _ _ P2.out).mono ?_; clear P2; rintro en w' ⟨rfl, hb⟩; replace S := hid (S.out.keep hb); replace B0 := hid (B0.out.trans (hb.mono B0.out.size)); clear hb))
  go_ret
  exact P.out _ _ rfl S.out.nil
end Go.Proofs.Ythbdnmmmibdgpaa
