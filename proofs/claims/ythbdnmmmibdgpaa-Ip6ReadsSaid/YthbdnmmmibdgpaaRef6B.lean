/-
  mosaicref06: Head, two, Build.
-/
import Derived.Test.YthbdnmmmibdgpaaRef6A
import Derived.Test.YthbdnmmmibdgpaaIp6B
namespace Go.Proofs.Ythbdnmmmibdgpaa
open Go.RowKit

theorem rHead6_any (p : Pk) (os xs : List Int) (w : World) (h : Pin w p os xs) (hl : xs.length ≤ 140737488355328) : Calls Try.prog 18 #[.agg (pkC p)] w (APost w (.int .i64 (if right6 p os.length xs.length = true then head6 p else 0))) := by
  have L1 := h.pk.src.len
  have L2 := h.pk.dst.len
  have PI := hid h
  have R := hid (fun W hP => rRight6_any p os xs W hP hl)
  obtain ⟨r, hr⟩ : ∃ r, (if right6 p os.length xs.length = true then head6 p else 0) = r := ⟨_, rfl⟩
  rw [hr]
  have HE := hid hr
  have HD := hid (show head6 p = if p.Frag = true then 48 else 40 from rfl)
  have P := hid (fun en w' (h1 : en = .returned (.int .i64 r)) (h2 : Sp w w' []) => show APost w (.int .i64 r) en w' from ⟨h1, h2.bel⟩)
  clear hr
  generalize right6 p os.length xs.length = rb at *
  generalize head6 p = hd at *
  have S : Hid (Sp w (w.alloc (.cells (pkC p) 28)) [.blk w.heap.size (pkC p) 28]) := hid (Sp.in1 ..)
  clear h hl
  go_enter Try.func18, Try.ntmps18
  go_upto_region 1 with fail
  generalize w.alloc (.cells (pkC p) 28) = w' at *
  generalize w.heap.size = b at *
  go_wp2_with (first
    | go_skip
    | ((with_reducible show wpList _ _ _ _ _ _); first | ((with_reducible show wpList _ _ _ (⟨_, .load _ _, _, _, _, _⟩ :: _) _ _); first | (first | (refine wpList_getW (by rfl) _ rfl S.out _ rfl 0 _ rfl (by first | rfl | assumption) (by first | rfl | assumption) ?_) | (refine wpList_getW (by rfl) _ rfl S.out _ rfl 1 _ rfl (by first | rfl | assumption) (by first | rfl | assumption) ?_) | (refine wpList_getW (by rfl) _ rfl S.out _ rfl 2 _ rfl (by first | rfl | assumption) (by first | rfl | assumption) ?_) | (refine wpList_getW (by rfl) _ rfl S.out _ rfl 3 _ rfl (by first | rfl | assumption) (by first | rfl | assumption) ?_) | (refine wpList_getW (by rfl) _ rfl S.out _ rfl 4 _ rfl (by first | rfl | assumption) (by first | rfl | assumption) ?_) | (refine wpList_getW (by rfl) _ rfl S.out _ rfl 5 _ rfl (by first | rfl | assumption) (by first | rfl | assumption) ?_)) | (first | (refine wpList_get_pk (by rfl) _ _ rfl S.out _ _ rfl 0 _ rfl _ rfl (by rfl) (by first | rfl | assumption) (by first | rfl | assumption) ?_) | (refine wpList_get_pk (by rfl) _ _ rfl S.out _ _ rfl 1 _ rfl _ rfl (by rfl) (by first | rfl | assumption) (by first | rfl | assumption) ?_) | (refine wpList_get_pk (by rfl) _ _ rfl S.out _ _ rfl 2 _ rfl _ rfl (by rfl) (by first | rfl | assumption) (by first | rfl | assumption) ?_) | (refine wpList_get_pk (by rfl) _ _ rfl S.out _ _ rfl 3 _ rfl _ rfl (by rfl) (by first | rfl | assumption) (by first | rfl | assumption) ?_) | (refine wpList_get_pk (by rfl) _ _ rfl S.out _ _ rfl 4 _ rfl _ rfl (by rfl) (by first | rfl | assumption) (by first | rfl | assumption) ?_) | (refine wpList_get_pk (by rfl) _ _ rfl S.out _ _ rfl 5 _ rfl _ rfl (by rfl) (by first | rfl | assumption) (by first | rfl | assumption) ?_))))
    | (go_at_call 16; refine (R.out _ (PI.out.below S.out.bel)).mono ?_; rintro en w' ⟨rfl, hb⟩; replace S := hid (S.out.keep hb); clear hb; cases rb))
  all_goals
    go_ret
    refine P.out _ _ ?_ S.out.nil
    have he := HE.out
    have hd := HD.out
    clear R HE HD P S PI
    show Ending.returned (.int .i64 _) = _
    simp_all
/-- what a call that grows a row tells -/
def GrowPost (base : Nat) (v : Value) (L : List Int) (n : Nat) (w : World) (en : Ending) (w' : World) : Prop :=
  ∃ a c, en = .returned (.slice a n c) ∧ w'.ownsRow base 5 1 (.slice a n c) n (bts L) ∧ w.grownBy w' v.ownBlock ∧ ∀ g, (Value.slice a n c).ownBlock = some g → v.ownBlock = some g ∨ w.heap.size ≤ g
theorem grown_alloc {w w2 : World} {o : Obj} {r : Option Nat} (h : (w.alloc o).grownBy w2 r) : w.grownBy w2 r :=
  ⟨h.os, h.tape, h.output, Nat.le_trans (bel_alloc w o).size h.size, fun k hk hne => (h.block k (Nat.lt_of_lt_of_le hk (bel_alloc w o).size) hne).trans ((bel_alloc w o).block k hk)⟩
theorem be2' {v : Int} (h0 : 0 ≤ v) (h1 : v ≤ 65535) : be 2 v = [v / 256, v % 256] := by simp [be]; omega
set_option maxHeartbeats 1000000 in
theorem rTwo_any (base : Nat) (v : Value) (L : List Int) (n : Nat) (x : Int) (w : World) (ho : w.ownsRow base 5 1 v n (bts L)) (hb : base ≤ w.heap.size) (h0 : 0 ≤ x) (h1 : x ≤ 65535) (hl : n ≤ 1000000) :
    Calls Try.prog 31 #[v, .int .i64 x] w (GrowPost base v (L ++ be 2 x) (n + 2) w) := by
  obtain ⟨i0, hi, hz0, hz1, hz2⟩ := info_parts Try.info5
  have e0 := hid (be2' h0 h1)
  have HO := hid (ho.alloc (.cells #[.int .u8 (x / 256), .int .u8 (x % 256)] 5))
  have HB := hid (show base ≤ (w.alloc (.cells #[.int .u8 (x / 256), .int .u8 (x % 256)] 5)).heap.size from Nat.le_trans hb (bel_alloc _ _).size)
  have HR := hid (rb_lit (w := w) (cs := #[.int .u8 (x / 256), .int .u8 (x % 256)]) (l := [x / 256, x % 256]) (n := 2) (byt_two (by omega) (by omega)) rfl rfl (by decide))
  have a1 : IntKind.u8.wrap (x / 256) = x / 256 := IntWalk.u8_in _ (by omega)
  have a2 : IntKind.u8.wrap (x % 256) = x % 256 := IntWalk.u8_in _ (by omega)
  have HS := hid (fun b (h : v.ownBlock = some b) => (ho.lt b h).2)
  have P := hid (fun en w' a c (g1 : en = .returned (.slice a (n + 2) c)) (g2 : w'.ownsRow base 5 1 (.slice a (n + 2) c) (n + 2) (bts L ++ bts [x / 256, x % 256])) (g3 : w.grownBy w' v.ownBlock) (g4 : ∀ g, (Value.slice a (n + 2) c).ownBlock = some g → v.ownBlock = some g ∨ w.heap.size ≤ g) =>
    show GrowPost base v (L ++ be 2 x) (n + 2) w en w' from by
      refine ⟨a, c, g1, ?_, g3, g4⟩
      rw [e0.out, bts_append]; exact g2)
  clear ho hb
  go_enter Try.func31, Try.ntmps31
  go_wp2_with (first
    | go_skip
    | ((with_reducible show wpList _ _ _ _ _ _); refine wpList_append_bytesG (by rfl) _ _ 26 rfl base 5 i0 _ Try.underlying26 hi hz0 hz1 hz2 rfl _ _ _ rfl HO.out _ _ rfl HR.out (by simp; omega) HB.out ?_; intro a2 c2 w' g1 g2 g3; replace g1 := hid g1; replace g2 := hid g2; replace g3 := hid g3))
  go_ret
  refine P.out _ _ _ _ rfl g1.out (grown_alloc g2.out) fun g hg => ?_
  rcases g3.out g hg with h | h
  · exact .inl h
  · exact .inr (by simp at h; omega)
theorem be1' {v : Int} (h0 : 0 ≤ v) (h1 : v ≤ 255) : be 1 v = [v] := by simp [be]; omega
theorem be4' {v : Int} (h0 : 0 ≤ v) (h1 : v ≤ 4294967295) : be 4 v = [v / 16777216, v / 65536 % 256, v / 256 % 256, v % 256] := by simp [be]; omega
theorem b6_front {t f pl q l : Int} (ht : 0 ≤ t ∧ t ≤ 255) (hf : 0 ≤ f ∧ f < 1048576) (hq : 0 ≤ q ∧ q ≤ 255) (hl : 0 ≤ l ∧ l ≤ 255) :
    [96 + t / 16, t % 16 * 16 + f / 65536] ++ be 2 (f % 65536) ++ be 2 pl ++ [q, l] = be 4 (1610612736 + t * 1048576 + f) ++ be 2 pl ++ be 1 q ++ be 1 l := by
  rw [be1' hq.1 hq.2, be1' hl.1 hl.2, be2' (v := f % 65536) (by omega) (by omega), be4' (v := 1610612736 + t * 1048576 + f) (by omega) (by omega)]
  have e : ([96 + t / 16, t % 16 * 16 + f / 65536] ++ [f % 65536 / 256, f % 65536 % 256] : List Int) = [(1610612736 + t * 1048576 + f) / 16777216, (1610612736 + t * 1048576 + f) / 65536 % 256, (1610612736 + t * 1048576 + f) / 256 % 256, (1610612736 + t * 1048576 + f) % 256] := by
    simp only [List.cons_append, List.nil_append, List.cons.injEq, and_true]
    refine ⟨?_, ?_, ?_, ?_⟩ <;> omega
  rw [e, List.append_assoc, List.append_assoc, List.append_assoc]
  rfl
theorem u8w_bd (x : Int) : 0 ≤ IntKind.u8.wrap x ∧ IntKind.u8.wrap x ≤ 255 := by
  have : IntKind.u8.wrap x = x % 256 := by simp [IntKind.wrap, IntKind.bits, IntKind.signed]
  omega
theorem B6Post.ok {l : List Int} {w w' : World} {a : Option Go.Addr} {n c : Nat} {m : List Int} (hm : m = l) (hn : n = l.length) (S : Sp w w' [.row (.slice a n c) 5 1 n (bts m)]) : B6Post 0 l w (.returned (.tuple #[.slice a n c, .int .i64 0])) w' := by
  subst hm; subst hn
  exact ⟨_, rfl, S.own 0 rfl, S.bel⟩
set_option maxRecDepth 20000 in
theorem rBuild6_no (p : Pk) (os xs : List Int) (w : World) (h : Pin w p os xs) (hl : xs.length ≤ 140737488355328) (hr : right6 p os.length xs.length = false) : Calls Try.prog 13 #[.agg (pkC p)] w (B6Post 1 [] w) := by
  have L1 := h.pk.src.len
  have L2 := h.pk.dst.len
  have PI := hid h
  have R := fun W hP => rHead6_any p os xs W hP hl
  rw [hr, if_neg (by decide)] at R
  have R := hid R
  have S : Hid (Sp w (w.alloc (.cells (pkC p) 28)) [.blk w.heap.size (pkC p) 28]) := hid (Sp.in1 ..)
  clear h hl hr
  go_enter Try.func13, Try.ntmps13
  go_upto_region 1 with fail
  generalize w.alloc (.cells (pkC p) 28) = w' at *
  go_wp2_with (first
    | go_skip
    | ((with_reducible show wpList _ _ _ _ _ _); first | ((with_reducible show wpList _ _ _ (⟨_, .load _ _, _, _, _, _⟩ :: _) _ _); first | (first | (refine wpList_getW (by rfl) _ rfl S.out _ rfl 0 _ rfl (by first | rfl | assumption) (by first | rfl | assumption) ?_) | (refine wpList_getW (by rfl) _ rfl S.out _ rfl 1 _ rfl (by first | rfl | assumption) (by first | rfl | assumption) ?_) | (refine wpList_getW (by rfl) _ rfl S.out _ rfl 2 _ rfl (by first | rfl | assumption) (by first | rfl | assumption) ?_) | (refine wpList_getW (by rfl) _ rfl S.out _ rfl 3 _ rfl (by first | rfl | assumption) (by first | rfl | assumption) ?_) | (refine wpList_getW (by rfl) _ rfl S.out _ rfl 4 _ rfl (by first | rfl | assumption) (by first | rfl | assumption) ?_) | (refine wpList_getW (by rfl) _ rfl S.out _ rfl 5 _ rfl (by first | rfl | assumption) (by first | rfl | assumption) ?_)) | (first | (refine wpList_get_pk (by rfl) _ _ rfl S.out _ _ rfl 0 _ rfl _ rfl (by rfl) (by first | rfl | assumption) (by first | rfl | assumption) ?_) | (refine wpList_get_pk (by rfl) _ _ rfl S.out _ _ rfl 1 _ rfl _ rfl (by rfl) (by first | rfl | assumption) (by first | rfl | assumption) ?_) | (refine wpList_get_pk (by rfl) _ _ rfl S.out _ _ rfl 2 _ rfl _ rfl (by rfl) (by first | rfl | assumption) (by first | rfl | assumption) ?_) | (refine wpList_get_pk (by rfl) _ _ rfl S.out _ _ rfl 3 _ rfl _ rfl (by rfl) (by first | rfl | assumption) (by first | rfl | assumption) ?_) | (refine wpList_get_pk (by rfl) _ _ rfl S.out _ _ rfl 4 _ rfl _ rfl (by rfl) (by first | rfl | assumption) (by first | rfl | assumption) ?_) | (refine wpList_get_pk (by rfl) _ _ rfl S.out _ _ rfl 5 _ rfl _ rfl (by rfl) (by first | rfl | assumption) (by first | rfl | assumption) ?_))))
    | (go_at_call 18; refine (R.out _ (PI.out.below S.out.bel)).mono ?_; rintro en w' ⟨rfl, hb⟩; replace S := hid (S.out.keep hb); clear hb))
  go_ret2
  exact ⟨_, rfl, World.ownsRow_nil _ _ _ _, S.out.bel⟩
def RB6Rel (w : World) (b : Nat) (p : Pk) (q L : List Int) (n : Nat) (t5 t7 : Value) (wr : World) : Prop :=
  ∃ k : Nat, k ≤ 16 ∧ t7 = .int .i64 k ∧ ∃ a c, t5 = .slice a (n + k) c ∧ Sp w wr [.row (.slice a (n + k) c) 5 1 (n + k) (bts (L ++ q.take k)), .blk b (pkC p) 28]

set_option maxHeartbeats 4000000 in
set_option maxRecDepth 20000 in
theorem rBuild6_front (p : Pk) (os xs : List Int) (fr mo : Bool) (w : World) (h : Pin w p os xs) (hf : p.Frag = fr) (hm : p.More = mo) (hr : right6 p os.length xs.length = true) : Calls Try.prog 13 #[.agg (pkC p)] w (B6Post 0 (b6L p xs) w) := by
  obtain ⟨t0, t1, t2, t3, t4, t5, t6, t7, t8⟩ := right6_parts hr
  clear t0
  have L1 := h.pk.src.len
  have L2 := h.pk.dst.len
  have H1 := hid h.pk.src
  have H2 := hid h.pk.dst
  have ID0 := h.pk.id0
  have ID1 := h.pk.id1
  obtain ⟨xa, xc, ex, hxc, hxm, hjunk⟩ := h.xR.open
  clear hjunk
  have PI := hid h
  have XR := hid h.xR
  have R := fun W hP => rHead6_any p os xs W hP (by omega)
  rw [hr, if_pos rfl] at R
  have P := hid (fun (a : Option Go.Addr) (n c : Nat) (m : List Int) w' (hm : m = b6L p xs) (hn : n = (b6L p xs).length) (S : Sp w w' [.row (.slice a n c) 5 1 n (bts m)]) => show B6Post 0 (b6L p xs) w (.returned (.tuple #[.slice a n c, .int .i64 0])) w' from B6Post.ok hm hn S)
  have LL : Hid (b6L p xs = be 4 (1610612736 + p.TOS * 1048576 + p.Flow) ++ be 2 (plen6 p xs.length) ++ be 1 (if p.Frag = true then 44 else p.Proto) ++ be 1 p.TTL ++ p.sB ++ p.dB ++
    (if p.Frag = true then be 1 p.Proto ++ be 1 0 ++ be 2 (off6 p) ++ be 4 p.ID else []) ++ xs) := hid rfl
  unfold plen6 at LL
  generalize hln : xs.length = n at *
  have HLN := hid hln
  have hpl : 0 ≤ head6 p - 40 + (n : Int) ∧ head6 p - 40 + (n : Int) ≤ 65535 := by
    unfold head6
    cases hf : p.Frag
    · simp; omega
    · have := (t7 hf).1; simp; omega
  have hhd : 40 ≤ head6 p ∧ head6 p ≤ 48 := by unfold head6; split <;> omega
  have hh0 : (head6 p == 0) = false := by simp; omega
  generalize head6 p = hd at *
  have s1 : IntKind.i64.wrap (hd - 40) = hd - 40 := IntWalk.i64_in _ (by omega)
  have s2 : IntKind.i64.wrap (hd - 40 + (n : Int)) = hd - 40 + (n : Int) := IntWalk.i64_in _ (by omega)
  replace R := hid R
  have S : Hid (Sp w (w.alloc (.cells (pkC p) 28)) [.blk w.heap.size (pkC p) 28]) := hid (Sp.in1 ..)
  replace t7 := hid t7
  replace t8 := hid t8
  clear h hr hxm hln hxc
  have SB := hid (fun k (hk : k < p.sB.length) => take_snoc hk)
  have DB := hid (fun k (hk : k < p.dB.length) => take_snoc hk)
  have SY := hid H1.out.byt.bd
  have DY := hid H2.out.byt.bd
  have TS := hid (show p.sB.take 16 = p.sB from List.take_of_length_le (by omega))
  have TD := hid (show p.dB.take 16 = p.dB from List.take_of_length_le (by omega))
  have GF := hid (show pkGet p 42 = some (.bool fr) by rw [← hf]; rfl)
  have GM := hid (show pkGet p 41 = some (.bool mo) by rw [← hm]; rfl)
  cases fr
  all_goals (
  go_enter Try.func13, Try.ntmps13
  go_upto_region 1 with fail
  generalize w.alloc (.cells (pkC p) 28) = w' at *
  generalize w.heap.size = b at *
  replace S := hid (show Sp w w' [.row (.slice none 0 0) 5 1 0 (bts []), .blk b (pkC p) 28] from S.out.nilrow 5 1)
  go_wp2_with (first
    | go_skip
    | (((with_reducible show wpList _ _ _ (_ :: _) _ (World.alloc _ (.cells _ 5))); refine wpList_world fun w' hw2 => ?_; (first | (replace S := hid (S.out.lit (l := []) (n := 0) hw2 rfl rfl (by decide))) | (replace S := hid (S.out.lit (l := [_]) (n := 1) hw2 rfl rfl (by decide))) | (replace S := hid (S.out.lit (l := [_, _]) (n := 2) hw2 rfl rfl (by decide))) | (replace S := hid (S.out.lit (l := [_, _, _]) (n := 3) hw2 rfl rfl (by decide))) | (replace S := hid (S.out.lit (l := [_, _, _, _]) (n := 4) hw2 rfl rfl (by decide)))); clear hw2))
    | ((with_reducible show wpList _ _ _ _ _ _)
       first
       | ((with_reducible show wpList _ _ _ (⟨_, .load _ _, _, _, _, _⟩ :: _) _ _); first | (refine wpList_get_pk (by rfl) _ _ rfl S.out _ _ rfl 1 p rfl _ GF.out (by rfl) (by first | rfl | assumption) (by first | rfl | assumption) ?_) | (refine wpList_get_pk (by rfl) _ _ rfl S.out _ _ rfl 1 p rfl _ GM.out (by rfl) (by first | rfl | assumption) (by first | rfl | assumption) ?_))
       | ((with_reducible show wpList _ _ _ (⟨_, .load _ _, _, _, _, _⟩ :: _) _ _); first | (first | (refine wpList_getW (by rfl) _ rfl S.out _ rfl 0 _ rfl (by first | rfl | assumption) (by first | rfl | assumption) ?_) | (refine wpList_getW (by rfl) _ rfl S.out _ rfl 1 _ rfl (by first | rfl | assumption) (by first | rfl | assumption) ?_) | (refine wpList_getW (by rfl) _ rfl S.out _ rfl 2 _ rfl (by first | rfl | assumption) (by first | rfl | assumption) ?_) | (refine wpList_getW (by rfl) _ rfl S.out _ rfl 3 _ rfl (by first | rfl | assumption) (by first | rfl | assumption) ?_) | (refine wpList_getW (by rfl) _ rfl S.out _ rfl 4 _ rfl (by first | rfl | assumption) (by first | rfl | assumption) ?_) | (refine wpList_getW (by rfl) _ rfl S.out _ rfl 5 _ rfl (by first | rfl | assumption) (by first | rfl | assumption) ?_)) | (first | (refine wpList_get_pk (by rfl) _ _ rfl S.out _ _ rfl 0 _ rfl _ rfl (by rfl) (by first | rfl | assumption) (by first | rfl | assumption) ?_) | (refine wpList_get_pk (by rfl) _ _ rfl S.out _ _ rfl 1 _ rfl _ rfl (by rfl) (by first | rfl | assumption) (by first | rfl | assumption) ?_) | (refine wpList_get_pk (by rfl) _ _ rfl S.out _ _ rfl 2 _ rfl _ rfl (by rfl) (by first | rfl | assumption) (by first | rfl | assumption) ?_) | (refine wpList_get_pk (by rfl) _ _ rfl S.out _ _ rfl 3 _ rfl _ rfl (by rfl) (by first | rfl | assumption) (by first | rfl | assumption) ?_) | (refine wpList_get_pk (by rfl) _ _ rfl S.out _ _ rfl 4 _ rfl _ rfl (by rfl) (by first | rfl | assumption) (by first | rfl | assumption) ?_) | (refine wpList_get_pk (by rfl) _ _ rfl S.out _ _ rfl 5 _ rfl _ rfl (by rfl) (by first | rfl | assumption) (by first | rfl | assumption) ?_)))
       | (at_builtin; first | (refine wpList_grow (by rfl) _ _ rfl S.out 1 rfl rfl _ [_, _] rfl (S.out.rb 0 rfl (byt_two (by first | exact u8w_bd _ | omega) (by first | exact u8w_bd _ | omega))) 2 (by rfl) (by decide) ?_; rintro ra rc w' hS; simp only [List.set, List.nil_append] at hS; replace S := hid (hS.sub (List.sublist_cons_self _ _)); clear hS) | (refine wpList_grow (by rfl) _ _ rfl S.out 1 rfl rfl _ [_, _] rfl (S.out.rb 0 rfl (byt_two (by first | exact u8w_bd _ | omega) (by first | exact u8w_bd _ | omega))) 8 (by rfl) (by decide) ?_; rintro ra rc w' hS; simp only [List.set] at hS; replace S := hid (hS.sub (List.sublist_cons_self _ _)); clear hS) | (refine wpList_grow (by rfl) _ _ rfl S.out 1 rfl rfl _ [_, _] rfl (S.out.rb 0 rfl (byt_two (by first | exact u8w_bd _ | omega) (by first | exact u8w_bd _ | omega))) 42 (by rfl) (by decide) ?_; rintro ra rc w' hS; simp only [List.set] at hS; replace S := hid (hS.sub (List.sublist_cons_self _ _)); clear hS)))
    | (go_at_call 18; refine (R.out _ (PI.out.below S.out.bel)).mono ?_; rintro en w' ⟨rfl, hb⟩; replace S := hid (S.out.keep hb); clear hb)
    | (go_at_call 31; refine (rTwo_any _ _ _ _ _ _ (S.out.own 0 rfl) S.out.le (by omega) (by omega) (by decide)).mono ?_; rintro en w' ⟨ra, rc, rfl, ho, hg, hf⟩; replace S := hid (S.out.grow 0 rfl hg ho hf); clear ho hg hf; simp only [List.set_cons_zero, Nat.reduceAdd] at S))
  obtain ⟨L8, E8, S8⟩ : ∃ L8, Hid (L8 = [96 + p.TOS / 16, p.TOS % 16 * 16 + p.Flow / 65536] ++ be 2 (p.Flow % 65536) ++ be 2 (hd - 40 + (n : Int)) ++ [if p.Frag = true then 44 else p.Proto, p.TTL]) ∧ Hid (Sp w w' [.row (.slice ra 8 rc) 5 1 8 (bts L8), .blk b (pkC p) 28]) :=
    ⟨_, hid rfl, hid (by have := S.out; rw [hf]; exact this)⟩
  replace S := S8
  clear S8 hh0 R
  replace E8 := hid (E8.out.trans (b6_front t1 t2 (by split <;> omega) t4))
  go_loopw [5, 7] (fun t5 t7 wr => RB6Rel w b p p.sB L8 8 t5 t7 wr) (fun _ t7 _ => 16 - (intOf t7).toNat)
  case atStart => exact ⟨0, by omega, rfl, ra, rc, rfl, by rw [List.take_zero, List.append_nil]; exact S.out⟩
  case round =>
    obtain ⟨k, hk, rfl, ra, rc, rfl, hS⟩ := hrel
    replace S := hid hS
    clear hS
    by_cases hlt : k < 16
    · have ck := (S.out.pk 1 rfl).src L1 hlt
      have by1 := SY.out k
      have sk := hid (SB.out k (by omega))
      generalize gt p.sB k = x at *
      go_wp2_with (first
        | go_skip
        | (((with_reducible show wpList _ _ _ (_ :: _) _ (World.alloc _ (.cells _ 5))); refine wpList_world fun w' hw2 => ?_; (first | (replace S := hid (S.out.lit (l := []) (n := 0) hw2 rfl rfl (by decide))) | (replace S := hid (S.out.lit (l := [_]) (n := 1) hw2 rfl rfl (by decide))) | (replace S := hid (S.out.lit (l := [_, _]) (n := 2) hw2 rfl rfl (by decide))) | (replace S := hid (S.out.lit (l := [_, _, _]) (n := 3) hw2 rfl rfl (by decide))) | (replace S := hid (S.out.lit (l := [_, _, _, _]) (n := 4) hw2 rfl rfl (by decide)))); clear hw2))
        | (at_builtin; refine wpList_grow (by rfl) _ _ rfl S.out 1 rfl rfl _ [x] rfl (S.out.rb 0 rfl (Byt.one by1.1 by1.2)) (8 + (k + 1)) rfl (by omega) ?_; rintro ra rc w' hS; simp only [List.set] at hS; replace S := hid (hS.sub (List.sublist_cons_self _ _)); clear hS))
      go_roundw
      case rel => exact ⟨k + 1, by omega, by go_num, _, _, rfl, by rw [sk.out, ← List.append_assoc]; exact S.out⟩
      case measure => simp [intOf]; omega
    · have hk16 : k = 16 := by omega
      subst hk16
      clear hlt hk
      have S9 := S.out
      rw [TS.out] at S9
      replace S := hid S9
      clear S9
      go_wp2_with fail
      go_loopw [5, 8] (fun t5 t8 wr => RB6Rel w b p p.dB (L8 ++ p.sB) 24 t5 t8 wr) (fun _ t8 _ => 16 - (intOf t8).toNat)
      case atStart => exact ⟨0, by omega, rfl, ra, rc, rfl, by rw [List.take_zero, List.append_nil]; exact S.out⟩
      case round =>
        obtain ⟨k, hk, rfl, ra, rc, rfl, hS⟩ := hrel
        replace S := hid hS
        clear hS
        by_cases hlt : k < 16
        · have ck := (S.out.pk 1 rfl).dst L1 L2 hlt
          have by1 := DY.out k
          have sk := hid (DB.out k (by omega))
          generalize gt p.dB k = x at *
          go_wp2_with (first
            | go_skip
            | (((with_reducible show wpList _ _ _ (_ :: _) _ (World.alloc _ (.cells _ 5))); refine wpList_world fun w' hw2 => ?_; (first | (replace S := hid (S.out.lit (l := []) (n := 0) hw2 rfl rfl (by decide))) | (replace S := hid (S.out.lit (l := [_]) (n := 1) hw2 rfl rfl (by decide))) | (replace S := hid (S.out.lit (l := [_, _]) (n := 2) hw2 rfl rfl (by decide))) | (replace S := hid (S.out.lit (l := [_, _, _]) (n := 3) hw2 rfl rfl (by decide))) | (replace S := hid (S.out.lit (l := [_, _, _, _]) (n := 4) hw2 rfl rfl (by decide)))); clear hw2))
            | (at_builtin; refine wpList_grow (by rfl) _ _ rfl S.out 1 rfl rfl _ [x] rfl (S.out.rb 0 rfl (Byt.one by1.1 by1.2)) (24 + (k + 1)) rfl (by omega) ?_; rintro ra rc w' hS; simp only [List.set] at hS; replace S := hid (hS.sub (List.sublist_cons_self _ _)); clear hS))
          go_roundw
          case rel => (repeat apply Exists.intro); exact ⟨⟨k + 1, by omega, by go_num, _, _, rfl, by rw [sk.out, ← List.append_assoc]; exact S.out⟩, rfl⟩
          case measure => simp [intOf]; omega
        · have hk16 : k = 16 := by omega
          subst hk16
          clear hlt hk
          have S9 := S.out
          rw [TD.out] at S9
          replace S := hid S9
          clear S9
          simp only [Nat.reduceAdd] at S
          have hid4 := HLN.out
          cases mo
          all_goals (
          go_wp2_with (first
            | go_skip
            | (((with_reducible show wpList _ _ _ (_ :: _) _ (World.alloc _ (.cells _ 5))); refine wpList_world fun w' hw2 => ?_; (first | (replace S := hid (S.out.lit (l := []) (n := 0) hw2 rfl rfl (by decide))) | (replace S := hid (S.out.lit (l := [_]) (n := 1) hw2 rfl rfl (by decide))) | (replace S := hid (S.out.lit (l := [_, _]) (n := 2) hw2 rfl rfl (by decide))) | (replace S := hid (S.out.lit (l := [_, _, _]) (n := 3) hw2 rfl rfl (by decide))) | (replace S := hid (S.out.lit (l := [_, _, _, _]) (n := 4) hw2 rfl rfl (by decide)))); clear hw2))
            | ((with_reducible show wpList _ _ _ _ _ _)
               first
               | ((with_reducible show wpList _ _ _ (⟨_, .load _ _, _, _, _, _⟩ :: _) _ _); first | (refine wpList_get_pk (by rfl) _ _ rfl S.out _ _ rfl 1 p rfl _ GF.out (by rfl) (by first | rfl | assumption) (by first | rfl | assumption) ?_) | (refine wpList_get_pk (by rfl) _ _ rfl S.out _ _ rfl 1 p rfl _ GM.out (by rfl) (by first | rfl | assumption) (by first | rfl | assumption) ?_))
               | ((with_reducible show wpList _ _ _ (⟨_, .load _ _, _, _, _, _⟩ :: _) _ _); first | (first | (refine wpList_getW (by rfl) _ rfl S.out _ rfl 0 _ rfl (by first | rfl | assumption) (by first | rfl | assumption) ?_) | (refine wpList_getW (by rfl) _ rfl S.out _ rfl 1 _ rfl (by first | rfl | assumption) (by first | rfl | assumption) ?_) | (refine wpList_getW (by rfl) _ rfl S.out _ rfl 2 _ rfl (by first | rfl | assumption) (by first | rfl | assumption) ?_) | (refine wpList_getW (by rfl) _ rfl S.out _ rfl 3 _ rfl (by first | rfl | assumption) (by first | rfl | assumption) ?_) | (refine wpList_getW (by rfl) _ rfl S.out _ rfl 4 _ rfl (by first | rfl | assumption) (by first | rfl | assumption) ?_) | (refine wpList_getW (by rfl) _ rfl S.out _ rfl 5 _ rfl (by first | rfl | assumption) (by first | rfl | assumption) ?_)) | (first | (refine wpList_get_pk (by rfl) _ _ rfl S.out _ _ rfl 0 _ rfl _ rfl (by rfl) (by first | rfl | assumption) (by first | rfl | assumption) ?_) | (refine wpList_get_pk (by rfl) _ _ rfl S.out _ _ rfl 1 _ rfl _ rfl (by rfl) (by first | rfl | assumption) (by first | rfl | assumption) ?_) | (refine wpList_get_pk (by rfl) _ _ rfl S.out _ _ rfl 2 _ rfl _ rfl (by rfl) (by first | rfl | assumption) (by first | rfl | assumption) ?_) | (refine wpList_get_pk (by rfl) _ _ rfl S.out _ _ rfl 3 _ rfl _ rfl (by rfl) (by first | rfl | assumption) (by first | rfl | assumption) ?_) | (refine wpList_get_pk (by rfl) _ _ rfl S.out _ _ rfl 4 _ rfl _ rfl (by rfl) (by first | rfl | assumption) (by first | rfl | assumption) ?_) | (refine wpList_get_pk (by rfl) _ _ rfl S.out _ _ rfl 5 _ rfl _ rfl (by rfl) (by first | rfl | assumption) (by first | rfl | assumption) ?_)))
               | (at_builtin; first
                  | (refine wpList_grow (by rfl) _ _ rfl S.out 0 rfl rfl _ xs rfl (S.out.old XR.out) (40 + n) (by omega) (by omega) ?_; rintro ra rc w' hS; simp only [List.set_cons_zero] at hS; replace S := hid hS; clear hS)
                  | (refine wpList_grow (by rfl) _ _ rfl S.out 0 rfl rfl _ xs rfl (S.out.old XR.out) (48 + n) (by omega) (by omega) ?_; rintro ra rc w' hS; simp only [List.set_cons_zero] at hS; replace S := hid hS; clear hS)
                  | (refine wpList_grow (by rfl) _ _ rfl S.out 1 rfl rfl _ [_, _] rfl (S.out.rb 0 rfl (byt_two (by first | exact u8w_bd _ | omega) (by first | exact u8w_bd _ | omega))) 42 (by rfl) (by decide) ?_; rintro ra rc w' hS; simp only [List.set] at hS; replace S := hid (hS.sub (List.sublist_cons_self _ _)); clear hS)
                  | (refine wpList_grow (by rfl) _ _ rfl S.out 1 rfl rfl _ [_, _, _, _] rfl (S.out.rb 0 rfl (by intro y hy; simp only [List.mem_cons, List.not_mem_nil, or_false] at hy; rcases hy with rfl | rfl | rfl | rfl <;> first | exact u8w_bd _ | omega)) 48 (by rfl) (by decide) ?_; rintro ra rc w' hS; simp only [List.set] at hS; replace S := hid (hS.sub (List.sublist_cons_self _ _)); clear hS)))
            | (go_at_call 31; refine (rTwo_any _ _ _ _ _ _ (S.out.own 0 rfl) S.out.le (by omega) (by omega) (by decide)).mono ?_; rintro en w' ⟨ra, rc, rfl, ho, hg, hf⟩; replace S := hid (S.out.grow 0 rfl hg ho hf); clear ho hg hf; simp only [List.set_cons_zero, Nat.reduceAdd] at S))
          go_ret2
          refine P.out _ _ _ _ _ ?_ ?_ (S.out.sub (by repeat (first | exact List.Sublist.refl _ | exact List.nil_sublist _ | apply List.Sublist.cons_cons | apply List.Sublist.cons)))
          · rw [LL.out, E8.out]
            simp [hf, hm, off6, be1' t3.1 t3.2, be4' ID0 ID1, show be 1 0 = [0] from rfl]
          · rw [LL.out]
            simp [hf, be_length, L1, L2]
            omega)
  )
theorem rBuild6_any (p : Pk) (os xs : List Int) (w : World) (h : Pin w p os xs) (hl : xs.length ≤ 140737488355328) :
    Calls Try.prog 13 #[.agg (pkC p)] w (B6Post (if right6 p os.length xs.length = true then 0 else 1) (if right6 p os.length xs.length = true then b6L p xs else []) w) := by
  cases hr : right6 p os.length xs.length
  · exact rBuild6_no p os xs w h hl hr
  · exact rBuild6_front p os xs _ _ w h rfl rfl hr
end Go.Proofs.Ythbdnmmmibdgpaa
