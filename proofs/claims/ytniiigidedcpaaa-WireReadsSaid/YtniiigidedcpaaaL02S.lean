/-
  WireReads: whatever the bytes and the script, the call answers true and leaves what was there as it was.
-/
import Derived.Test.YtniiigidedcpaaaL02R
import Derived.Test.YtniiigidedcpaaaL02V
import Derived.Test.YtniiigidedcpaaaRegion2
namespace Go.Proofs.Ytniiigidedcpaaa
open Go.RowKit

/-- a row of bytes of the call's own: n bytes, and two more -/
def Row9 (ρ : Nat → Nat) (i : Nat) (w : World) (v : Value) (n : Nat) (l : List Int) : Prop := w.ownsRow 0 5 1 v (n + 2) (bts l) ∧ Lab ρ i v
theorem Row9.moves {ρ ρ' : Nat → Nat} {i : Nat} {w w' : World} {v : Value} {n : Nat} {l : List Int} (h : Row9 ρ i w v n l) (hb : ∀ k, k < w.heap.size → ρ k = i → w'.heap[k]? = w.heap[k]?) (hl : ∀ k, k < w.heap.size → ρ' k = ρ k) : Row9 ρ' i w' v n l :=
  ⟨own_move h.1 fun b hb' hlt => hb b hlt (h.2 b hb'), fun b hb' => by rw [hl _ (own_lt h.1 hb')]; exact h.2 b hb'⟩
/-- what was laid first in such a row -/
theorem Row9.front {ρ : Nat → Nat} {i : Nat} {w : World} {a : Option Addr} {c : Nat} {l : List Int} (h : Row9 ρ i w (.slice a (l.length + 2) c) l.length (l ++ [165, 166])) (hl : Byt l) : Rb w (.slice a l.length c) l := by
  have h2 : Rb w (.slice a (l.length + 2) c) (l ++ [165, 166]) := Rb.of_own (hl.append (lit_bytes (l := [165, 166]) (by decide))) h.1
  have := h2.front l.length (by simp)
  have e : List.take l.length (l ++ [165, 166]) = l := by simp
  rwa [e] at this
/-- the state between two calls -/
def RState (w0 : World) (b1 b2 x1 x2 y1 y2 : Nat) (t1 t2 : TypeId) (xv yv : Value) (na nb : Nat) (la lb : List Int) (wr : World) : Prop :=
  ∃ ρ l1 e1 l2 e2, Cx w0 ρ wr ∧ PtrArr wr b1 t1 x1 x2 ∧ PtrArr wr b2 t2 y1 y2 ∧ ρ b1 = 7 ∧ ρ b2 = 7 ∧ IsR ρ 1 wr x1 l1 e1 ∧ IsN ρ 2 wr y1 l1 e1 ∧ IsR ρ 3 wr x2 l2 e2 ∧ IsN ρ 4 wr y2 l2 e2 ∧ Row9 ρ 9 wr xv na la ∧ Row9 ρ 10 wr yv nb lb
theorem RState.grow {w0 w w' : World} {b1 b2 x1 x2 y1 y2 : Nat} {t1 t2 : TypeId} {xv yv : Value} {na nb : Nat} {la lb : List Int} (h : RState w0 b1 b2 x1 x2 y1 y2 t1 t2 xv yv na nb la lb w) (hb : Below w.heap.size w w') :
    RState w0 b1 b2 x1 x2 y1 y2 t1 t2 xv yv na nb la lb w' := by
  obtain ⟨ρ, l1, e1, l2, e2, C, A1, A2, L1, L2, W, M, V, N, X, Y⟩ := h
  exact ⟨ρ, l1, e1, l2, e2, C.more hb, (hb.block b1 (lt_of_block A1)).trans A1, (hb.block b2 (lt_of_block A2)).trans A2, L1, L2, W.moves (fun k hk _ => hb.block k hk) fun _ _ => rfl, M.moves (fun k hk _ => hb.block k hk) fun _ _ => rfl,
    V.moves (fun k hk _ => hb.block k hk) fun _ _ => rfl, N.moves (fun k hk _ => hb.block k hk) fun _ _ => rfl, X.moves (fun k hk _ => hb.block k hk) fun _ _ => rfl, Y.moves (fun k hk _ => hb.block k hk) fun _ _ => rfl⟩
/-- the round in which the first bytes are written over -/
def EEX (w0 : World) (b1 b2 x1 x2 y1 y2 : Nat) (t1 t2 : TypeId) (xv yv : Value) (na nb : Nat) (i : Value) (wr : World) : Prop :=
  ∃ (k : Nat) (la lb : List Int), k ≤ na + 2 ∧ i = .int .i64 k ∧ RState w0 b1 b2 x1 x2 y1 y2 t1 t2 xv yv na nb la lb wr
def EEY (w0 : World) (b1 b2 x1 x2 y1 y2 : Nat) (t1 t2 : TypeId) (xv yv : Value) (na nb : Nat) (i : Value) (wr : World) : Prop :=
  ∃ (k : Nat) (la lb : List Int), k ≤ nb + 2 ∧ i = .int .i64 k ∧ RState w0 b1 b2 x1 x2 y1 y2 t1 t2 xv yv na nb la lb wr
def RRounds (w0 : World) (b1 b2 x1 x2 y1 y2 : Nat) (t1 t2 : TypeId) (xv yv : Value) (na nb n : Nat) (i : Value) (wr : World) : Prop :=
  ∃ (k : Nat) (la lb : List Int), k ≤ n ∧ i = .int .i64 k ∧ RState w0 b1 b2 x1 x2 y1 y2 t1 t2 xv yv na nb la lb wr
section
variable {w0 w w' : World} {b1 b2 x1 x2 y1 y2 : Nat} {t1 t2 : TypeId} {xv yv : Value} {na nb : Nat} {la lb : List Int}
theorem RState.cx (h : RState w0 b1 b2 x1 x2 y1 y2 t1 t2 xv yv na nb la lb w) : Below w0.heap.size w0 w := by
  obtain ⟨ρ, l1, e1, l2, e2, C, _⟩ := h
  exact C.bel
theorem RState.rowX (h : RState w0 b1 b2 x1 x2 y1 y2 t1 t2 xv yv na nb la lb w) (hb : Byt la) : Rb w xv la := by
  obtain ⟨ρ, l1, e1, l2, e2, C, A1, A2, L1, L2, W, M, V, N, X, Y⟩ := h
  exact Rb.of_own hb X.1
theorem RState.rowY (h : RState w0 b1 b2 x1 x2 y1 y2 t1 t2 xv yv na nb la lb w) (hb : Byt lb) : Rb w yv lb := by
  obtain ⟨ρ, l1, e1, l2, e2, C, A1, A2, L1, L2, W, M, V, N, X, Y⟩ := h
  exact Rb.of_own hb Y.1
theorem RState.ownX (h : RState w0 b1 b2 x1 x2 y1 y2 t1 t2 xv yv na nb la lb w) : w.ownsRow 0 5 1 xv (na + 2) (bts la) := by
  obtain ⟨ρ, l1, e1, l2, e2, C, A1, A2, L1, L2, W, M, V, N, X, Y⟩ := h
  exact X.1
theorem RState.ownY (h : RState w0 b1 b2 x1 x2 y1 y2 t1 t2 xv yv na nb la lb w) : w.ownsRow 0 5 1 yv (nb + 2) (bts lb) := by
  obtain ⟨ρ, l1, e1, l2, e2, C, A1, A2, L1, L2, W, M, V, N, X, Y⟩ := h
  exact Y.1
theorem RState.storeX {g c : Nat} (h : RState w0 b1 b2 x1 x2 y1 y2 t1 t2 (.slice (some ⟨g, 0, none⟩) (na + 2) c) yv na nb la lb w) (k : Nat) (x : Int) :
    RState w0 b1 b2 x1 x2 y1 y2 t1 t2 (.slice (some ⟨g, 0, none⟩) (na + 2) c) yv na nb (la.set k x) lb (w.setCell ⟨g, k, none⟩ (.int .u8 x)) := by
  obtain ⟨ρ, l1, e1, l2, e2, C, A1, A2, L1, L2, W, M, V, N, X, Y⟩ := h
  have hf : FrO ρ 9 w (w.setCell ⟨g, k, none⟩ (.int .u8 x)) := FrO.setCell (X.2 g rfl) _
  refine ⟨ρ, l1, e1, l2, e2, C.step' hf (by decide), (hf.block b1 (lt_of_block A1) (by rw [L1]; decide)).trans A1, (hf.block b2 (lt_of_block A2) (by rw [L2]; decide)).trans A2, L1, L2, W.moves (fun k hk hki => hf.block k hk (by rw [hki]; decide)) fun _ _ => rfl, M.moves (fun k hk hki => hf.block k hk (by rw [hki]; decide)) fun _ _ => rfl,
    V.moves (fun k hk hki => hf.block k hk (by rw [hki]; decide)) fun _ _ => rfl, N.moves (fun k hk hki => hf.block k hk (by rw [hki]; decide)) fun _ _ => rfl, ⟨?_, X.2⟩, Y.moves (fun k hk hki => hf.block k hk (by rw [hki]; decide)) fun _ _ => rfl⟩
  rw [show bts (la.set k x) = (bts la).set k (.int .u8 x) by simp [bts, List.map_set]]
  exact (World.ownsRow.stored X.1 k (.int .u8 x)).1
theorem RState.storeY {g c : Nat} (h : RState w0 b1 b2 x1 x2 y1 y2 t1 t2 xv (.slice (some ⟨g, 0, none⟩) (nb + 2) c) na nb la lb w) (k : Nat) (x : Int) :
    RState w0 b1 b2 x1 x2 y1 y2 t1 t2 xv (.slice (some ⟨g, 0, none⟩) (nb + 2) c) na nb la (lb.set k x) (w.setCell ⟨g, k, none⟩ (.int .u8 x)) := by
  obtain ⟨ρ, l1, e1, l2, e2, C, A1, A2, L1, L2, W, M, V, N, X, Y⟩ := h
  have hf : FrO ρ 10 w (w.setCell ⟨g, k, none⟩ (.int .u8 x)) := FrO.setCell (Y.2 g rfl) _
  refine ⟨ρ, l1, e1, l2, e2, C.step' hf (by decide), (hf.block b1 (lt_of_block A1) (by rw [L1]; decide)).trans A1, (hf.block b2 (lt_of_block A2) (by rw [L2]; decide)).trans A2, L1, L2, W.moves (fun k hk hki => hf.block k hk (by rw [hki]; decide)) fun _ _ => rfl, M.moves (fun k hk hki => hf.block k hk (by rw [hki]; decide)) fun _ _ => rfl,
    V.moves (fun k hk hki => hf.block k hk (by rw [hki]; decide)) fun _ _ => rfl, N.moves (fun k hk hki => hf.block k hk (by rw [hki]; decide)) fun _ _ => rfl, X.moves (fun k hk hki => hf.block k hk (by rw [hki]; decide)) fun _ _ => rfl, ⟨?_, Y.2⟩⟩
  rw [show bts (lb.set k x) = (bts lb).set k (.int .u8 x) by simp [bts, List.map_set]]
  exact (World.ownsRow.stored Y.1 k (.int .u8 x)).1
end
/-- behind the making of the two readers -/
def RMade (w0 : World) (la lb : List Int) (xv yv : Value) (t : TypeId) (t9 : Value) (wr : World) : Prop :=
  ∃ ρ b1 r1 r2, Cx w0 ρ wr ∧ t9 = .pointer (some ⟨b1, 0, none⟩) ∧ PtrArr wr b1 t r1 r2 ∧ ρ b1 = 7 ∧ IsR ρ 1 wr r1 la 0 ∧ IsR ρ 3 wr r2 lb 0 ∧ Row9 ρ 9 wr xv la.length (la ++ [165, 166]) ∧ Row9 ρ 10 wr yv lb.length (lb ++ [165, 166])

set_option maxHeartbeats 6400000 in
set_option maxRecDepth 20000 in
theorem wireReads_any (av bv sv : Value) (la lb : List Int) (ops : List Opv) (w : World) (ha : Rb w av la) (hb : Rb w bv lb) (h : Rops w sv ops) (hla : la.length + 2 ≤ 140737488355328) (hlb : lb.length + 2 ≤ 140737488355328) :
    Calls Try.prog 5 #[av, bv, sv] w (AlivePost w) := by
  obtain ⟨i0, hi, hz0, hz1, hz2⟩ := info_parts Try.info5
  have HR := hid h
  have HA := hid ha
  have HB := hid hb
  obtain ⟨a, cap, rfl, hc, hm, hz⟩ := h
  obtain ⟨aa, acap, rfl, hac, ham, _⟩ := ha.open
  obtain ⟨ab, bcap, rfl, hbc, hbm, _⟩ := hb.open
  unfold maxLen at hm ham hbm
  have HZ := hid hz
  clear hz ha hb
  go_enter Try.func5, Try.ntmps5
  go_wp2_with fail
  refine (alive_any _).mono ?_
  rintro en w1 ⟨rfl, hb1⟩
  have C1 := hid ((Cx.refl w).more hb1)
  have HA1 := hid (HA.out.below hb1)
  clear hb1
  go_wp2_with fail
  refine (own_any _ la _ HA1.out (by omega)).mono ?_
  rintro en w2 ⟨v2, rfl, ho, hb2⟩
  obtain ⟨a2, c2, rfl, _, _, _⟩ := own_shape ho
  have HO := hid ho
  have HB2 := hid hb2
  have hs2 := hb2.size
  clear ho hb2
  go_wp2_with (at_builtin; refine wpList_append_bytes rfl _ _ 22 rfl w1.heap.size 5 i0 _ Try.underlying22 hi hz0 hz1 hz2 rfl (.slice a2 la.length c2) _ _ rfl (HO.out.alloc _) _ [165, 166] rfl (Rb.new (lit_bytes (by decide)) (heap_alloc_new w2 _) rfl rfl (by decide)) (by simp; omega) (by simp; omega) ?_; intro ax cx w3 ho hg hat)
  obtain ⟨ρ3, C3, X3⟩ : ∃ ρ3, Hid (Cx w ρ3 w3) ∧ Hid (Row9 ρ3 9 w3 (.slice ax (la.length + 2) cx) la.length (la ++ [165, 166])) := by
    have hbel : Below w1.heap.size w1 w3 := (HB2.out.alloc HB2.out.size _).grown hg (by simp; omega) fun g hgb => (HO.out.lt g hgb).1
    exact ⟨_, hid (C1.out.grow hbel 9), hid ⟨own_base (by rw [bts_append]; exact ho) (Nat.zero_le _), fun b hb => ext_new (ho.lt b hb).1⟩⟩
  clear ho hg hat HO HB2 hs2
  have HB3 := hid (HB.out.below C3.out.bel)
  refine (own_any _ lb _ HB3.out (by omega)).mono ?_
  rintro en w4 ⟨v4, rfl, ho, hb4⟩
  obtain ⟨a4, c4, rfl, _, _, _⟩ := own_shape ho
  have HO := hid ho
  have HB4 := hid hb4
  have hs4 := hb4.size
  clear ho hb4
  go_upto_region 5 with (at_builtin; refine wpList_append_bytes rfl _ _ 22 rfl w3.heap.size 5 i0 _ Try.underlying22 hi hz0 hz1 hz2 rfl (.slice a4 lb.length c4) _ _ rfl (HO.out.alloc _) _ [165, 166] rfl (Rb.new (lit_bytes (by decide)) (heap_alloc_new w4 _) rfl rfl (by decide)) (by simp; omega) (by simp; omega) ?_; intro ay cy w5 ho hg hat)
  obtain ⟨ρ5, C5, X5, Y5⟩ : ∃ ρ5, Hid (Cx w ρ5 w5) ∧ Hid (Row9 ρ5 9 w5 (.slice ax (la.length + 2) cx) la.length (la ++ [165, 166])) ∧ Hid (Row9 ρ5 10 w5 (.slice ay (lb.length + 2) cy) lb.length (lb ++ [165, 166])) := by
    have hbel : Below w3.heap.size w3 w5 := (HB4.out.alloc HB4.out.size _).grown hg (by simp; omega) fun g hgb => (HO.out.lt g hgb).1
    exact ⟨_, hid (C3.out.grow hbel 10), hid (X3.out.moves (fun k hk _ => hbel.block k hk) fun k hk => ext_old hk), hid ⟨own_base (by rw [bts_append]; exact ho) (Nat.zero_le _), fun b hb => ext_new (ho.lt b hb).1⟩⟩
  clear ho hg hat HO HB4 hs4 C3 X3
  obtain ⟨_, _, e5, hcx, _, _⟩ := own_shape X5.out.1
  simp only [Value.slice.injEq, true_and] at e5
  obtain ⟨rfl, rfl⟩ := e5
  obtain ⟨_, _, e5, hcy, _, _⟩ := own_shape Y5.out.1
  simp only [Value.slice.injEq, true_and] at e5
  obtain ⟨rfl, rfl⟩ := e5
  have hsx := fun W => run_slice_h_sub (P := Try.prog) 22 5 Try.underlying22 hi hz1 ax (la.length + 2) cx .i64 la.length la.length rfl (by omega) W
  have hsy := fun W => run_slice_h_sub (P := Try.prog) 22 5 Try.underlying22 hi hz1 ay (lb.length + 2) cy .i64 lb.length lb.length rfl (by omega) W
  go_cut [9] from 10 (fun t9 wc => RMade w la lb (.slice ax (la.length + 2) cx) (.slice ay (lb.length + 2) cy) 52 t9 wc)
  case first =>
    refine wp_region_ord (.weak 0 (.weak 1 (.weak 2 (.weak 3 (.weak 5 (.weak 6 (.weak 7 (.weak 8 (.two 4 11
      (.two 9 11 (.weak 10 (.strong 11 (.strong 12 .done))) (.strong 9 (.weak 10 (.strong 12 .done))))
      (.strong 4 (.strong 9 (.weak 10 (.strong 12 .done))))))))))))) (fun _ => True) (by kernel_rfl) (by kernel_rfl) (fun c a d v w h => by cases d <;> exact h) ?_ ?_
    · trivial
    have C5 := hid (C5.out.more ((Same.drew w5).below _))
    have X5 := hid (X5.out.moves (w' := w5.drew) (ρ' := ρ5) (fun k hk _ => rfl) fun k hk => rfl)
    have Y5 := hid (Y5.out.moves (w' := w5.drew) (ρ' := ρ5) (fun k hk _ => rfl) fun k hk => rfl)
    generalize w5.drew = w5 at *
    simp only [Ord.pick, List.getElem?_cons_succ, List.getElem?_cons_zero]
    (repeat (first | (refine wpE_weak (by rfl) ?_; apply Exists.intro; refine ⟨fun wS hS => ?_, ?_⟩; (focus (go_simp; (try with_reducible rfl); done)); simp only [Act.put, List.setIfInBounds_toArray, List.set_cons_zero, List.set_cons_succ]) | (refine wpE_pass (by rfl) ?_; simp only [Act.put, List.setIfInBounds_toArray, List.set_cons_zero, List.set_cons_succ])))
    refine wpE_two (wpS_do (by rfl) (fun K hK => ?_)) (wpS_do (by rfl) (fun K hK => ?_))
    · -- the readers first
      go_simp
      refine (newReader_any ρ5 1 _ la _ (X5.out.front HA.out.byt) (by omega)).mono ?_
      rintro en w6 ⟨r1, rfl, _, hR, hb⟩
      obtain ⟨ρ6, C6, X6, Y6, R6⟩ : ∃ ρ6, Hid (Cx w ρ6 w6) ∧ Hid (Row9 ρ6 9 w6 (.slice ax (la.length + 2) cx) la.length (la ++ [165, 166])) ∧ Hid (Row9 ρ6 10 w6 (.slice ay (lb.length + 2) cy) lb.length (lb ++ [165, 166])) ∧ Hid (IsR ρ6 1 w6 r1 la 0) :=
        ⟨_, hid (C5.out.grow hb 1), hid (X5.out.moves (fun k hk _ => hb.block k hk) fun k hk => ext_old hk), hid (Y5.out.moves (fun k hk _ => hb.block k hk) fun k hk => ext_old hk), hid hR⟩
      clear hR hb
      (refine hK _ _ (by trivial) ?_; clear hK K; (try simp only [Act.put, List.setIfInBounds_toArray, List.set_cons_zero, List.set_cons_succ]))
      refine wpE_two (wpS_do (by rfl) (fun K hK => ?_)) (wpS_do (by rfl) (fun K hK => ?_))
      · go_simp
        refine (newReader_any ρ6 3 _ lb _ (Y6.out.front HB.out.byt) (by omega)).mono ?_
        rintro en w7 ⟨r2, rfl, _, hR, hb⟩
        obtain ⟨ρ7, C7, X7, Y7, R7, Q7⟩ : ∃ ρ7, Hid (Cx w ρ7 w7) ∧ Hid (Row9 ρ7 9 w7 (.slice ax (la.length + 2) cx) la.length (la ++ [165, 166])) ∧ Hid (Row9 ρ7 10 w7 (.slice ay (lb.length + 2) cy) lb.length (lb ++ [165, 166])) ∧ Hid (IsR ρ7 1 w7 r1 la 0) ∧ Hid (IsR ρ7 3 w7 r2 lb 0) :=
          ⟨_, hid (C6.out.grow hb 3), hid (X6.out.moves (fun k hk _ => hb.block k hk) fun k hk => ext_old hk), hid (Y6.out.moves (fun k hk _ => hb.block k hk) fun k hk => ext_old hk), hid (R6.out.moves (fun k hk _ => hb.block k hk) fun k hk => ext_old hk), hid hR⟩
        clear hR hb
        (refine hK _ _ (by trivial) ?_; clear hK K; (try simp only [Act.put, List.setIfInBounds_toArray, List.set_cons_zero, List.set_cons_succ]))
        (repeat (first | (refine wpE_weak (by rfl) ?_; apply Exists.intro; refine ⟨fun wS hS => ?_, ?_⟩; (focus (go_simp; (try with_reducible rfl); done)); simp only [Act.put, List.setIfInBounds_toArray, List.set_cons_zero, List.set_cons_succ]) | (refine wpE_pass (by rfl) ?_; simp only [Act.put, List.setIfInBounds_toArray, List.set_cons_zero, List.set_cons_succ])))
        (refine wpE_strong (wpS_do (by rfl) (fun K hK => ?_)); go_simp)
        (refine hK _ _ (by trivial) ?_; clear hK K; (try simp only [Act.put, List.setIfInBounds_toArray, List.set_cons_zero, List.set_cons_succ]))
        (refine wpE_strong (wpS_do (by rfl) (fun K hK => ?_)); go_simp)
        (refine hK _ _ (by trivial) ?_; clear hK K; (try simp only [Act.put, List.setIfInBounds_toArray, List.set_cons_zero, List.set_cons_succ]))
        refine wpE_done ?_
        go_wp2_with fail
        go_meet
        refine ⟨ext ρ7 w7.heap.size 7, w7.heap.size, r1, r2, C7.out.grow (bel_alloc w7 _) 7, rfl, heap_alloc_new w7 _, ext_new (Nat.le_refl _), R7.out.moves (fun k hk _ => (bel_alloc w7 _).block k hk) (fun k hk => ext_old hk), Q7.out.moves (fun k hk _ => (bel_alloc w7 _).block k hk) (fun k hk => ext_old hk), X7.out.moves (fun k hk _ => (bel_alloc w7 _).block k hk) (fun k hk => ext_old hk), Y7.out.moves (fun k hk _ => (bel_alloc w7 _).block k hk) (fun k hk => ext_old hk)⟩
      · go_simp
        obtain ⟨b1, hb1⟩ : ∃ b, b = w6.heap.size := ⟨_, rfl⟩
        obtain ⟨ρ7, w7, hw7, C7, X7, Y7, R7, P7, L7⟩ : ∃ ρ7 w7, w7 = w6.alloc (.cells #[.pointer none, .pointer none] 52) ∧ Hid (Cx w ρ7 w7) ∧ Hid (Row9 ρ7 9 w7 (.slice ax (la.length + 2) cx) la.length (la ++ [165, 166])) ∧ Hid (Row9 ρ7 10 w7 (.slice ay (lb.length + 2) cy) lb.length (lb ++ [165, 166])) ∧ Hid (IsR ρ7 1 w7 r1 la 0) ∧ Hid (w7.heap[b1]? = some (.cells #[.pointer none, .pointer none] 52 (0, 0))) ∧ Hid (ρ7 b1 = 7) :=
          ⟨_, _, rfl, hid (C6.out.grow (bel_alloc w6 _) 7), hid (X6.out.moves (fun k hk _ => (bel_alloc w6 _).block k hk) fun k hk => ext_old hk), hid (Y6.out.moves (fun k hk _ => (bel_alloc w6 _).block k hk) fun k hk => ext_old hk), hid (R6.out.moves (fun k hk _ => (bel_alloc w6 _).block k hk) fun k hk => ext_old hk), hid (by rw [hb1]; exact heap_alloc_new w6 _), hid (by rw [hb1]; exact ext_new (Nat.le_refl _))⟩
        rw [← hw7, ← hb1]
        clear hw7 hb1
        (refine hK _ _ (by trivial) ?_; clear hK K; (try simp only [Act.put, List.setIfInBounds_toArray, List.set_cons_zero, List.set_cons_succ]))
        (refine wpE_strong (wpS_do (by rfl) (fun K hK => ?_)); go_simp)
        refine (newReader_any ρ7 3 _ lb _ (Y7.out.front HB.out.byt) (by omega)).mono ?_
        rintro en w8 ⟨r2, rfl, _, hR, hb⟩
        obtain ⟨ρ8, C8, X8, Y8, R8, P8, L8, Q8⟩ : ∃ ρ8, Hid (Cx w ρ8 w8) ∧ Hid (Row9 ρ8 9 w8 (.slice ax (la.length + 2) cx) la.length (la ++ [165, 166])) ∧ Hid (Row9 ρ8 10 w8 (.slice ay (lb.length + 2) cy) lb.length (lb ++ [165, 166])) ∧ Hid (IsR ρ8 1 w8 r1 la 0) ∧ Hid (w8.heap[b1]? = some (.cells #[.pointer none, .pointer none] 52 (0, 0))) ∧ Hid (ρ8 b1 = 7) ∧ Hid (IsR ρ8 3 w8 r2 lb 0) :=
          ⟨_, hid (C7.out.grow hb 3), hid (X7.out.moves (fun k hk _ => hb.block k hk) fun k hk => ext_old hk), hid (Y7.out.moves (fun k hk _ => hb.block k hk) fun k hk => ext_old hk), hid (R7.out.moves (fun k hk _ => hb.block k hk) fun k hk => ext_old hk), hid ((hb.block b1 (lt_of_block P7.out)).trans P7.out), hid ((ext_old (lt_of_block P7.out)).trans L7.out), hid hR⟩
        clear hR hb
        obtain ⟨s0, s1, u0, u1⟩ := cells2 P8.out
        (refine hK _ _ (by trivial) ?_; clear hK K; (try simp only [Act.put, List.setIfInBounds_toArray, List.set_cons_zero, List.set_cons_succ]))
        (repeat (first | (refine wpE_weak (by rfl) ?_; apply Exists.intro; refine ⟨fun wS hS => ?_, ?_⟩; (focus (go_simp; (try with_reducible rfl); done)); simp only [Act.put, List.setIfInBounds_toArray, List.set_cons_zero, List.set_cons_succ]) | (refine wpE_pass (by rfl) ?_; simp only [Act.put, List.setIfInBounds_toArray, List.set_cons_zero, List.set_cons_succ])))
        (refine wpE_strong (wpS_do (by rfl) (fun K hK => ?_)); go_simp)
        (refine hK _ _ (by trivial) ?_; clear hK K; (try simp only [Act.put, List.setIfInBounds_toArray, List.set_cons_zero, List.set_cons_succ]))
        refine wpE_done ?_
        go_wp2_with fail
        go_meet
        have hst : FrO ρ8 7 w8 ((w8.setCell ⟨b1, 0, none⟩ (.pointer (some ⟨r1, 0, none⟩))).setCell ⟨b1, 1, none⟩ (.pointer (some ⟨r2, 0, none⟩))) := (FrO.setCell L8.out _).trans' (FrO.setCell L8.out _)
        exact ⟨ρ8, b1, r1, r2, C8.out.step' hst (by decide), rfl, heap_store (heap_store P8.out _) _, L8.out, R8.out.moves (fun k hk hki => hst.block k hk (by rw [hki]; decide)) (fun _ _ => rfl), Q8.out.moves (fun k hk hki => hst.block k hk (by rw [hki]; decide)) (fun _ _ => rfl), X8.out.moves (fun k hk hki => hst.block k hk (by rw [hki]; decide)) (fun _ _ => rfl), Y8.out.moves (fun k hk hki => hst.block k hk (by rw [hki]; decide)) (fun _ _ => rfl)⟩
    · -- the array first
      go_simp
      obtain ⟨b1, hb1⟩ : ∃ b, b = w5.heap.size := ⟨_, rfl⟩
      obtain ⟨ρ6, w6, hw6, C6, X6, Y6, P6, L6⟩ : ∃ ρ6 w6, w6 = w5.alloc (.cells #[.pointer none, .pointer none] 52) ∧ Hid (Cx w ρ6 w6) ∧ Hid (Row9 ρ6 9 w6 (.slice ax (la.length + 2) cx) la.length (la ++ [165, 166])) ∧ Hid (Row9 ρ6 10 w6 (.slice ay (lb.length + 2) cy) lb.length (lb ++ [165, 166])) ∧ Hid (w6.heap[b1]? = some (.cells #[.pointer none, .pointer none] 52 (0, 0))) ∧ Hid (ρ6 b1 = 7) :=
        ⟨_, _, rfl, hid (C5.out.grow (bel_alloc w5 _) 7), hid (X5.out.moves (fun k hk _ => (bel_alloc w5 _).block k hk) fun k hk => ext_old hk), hid (Y5.out.moves (fun k hk _ => (bel_alloc w5 _).block k hk) fun k hk => ext_old hk), hid (by rw [hb1]; exact heap_alloc_new w5 _), hid (by rw [hb1]; exact ext_new (Nat.le_refl _))⟩
      rw [← hw6, ← hb1]
      clear hw6 hb1
      (refine hK _ _ (by trivial) ?_; clear hK K; (try simp only [Act.put, List.setIfInBounds_toArray, List.set_cons_zero, List.set_cons_succ]))
      (refine wpE_strong (wpS_do (by rfl) (fun K hK => ?_)); go_simp)
      refine (newReader_any ρ6 1 _ la _ (X6.out.front HA.out.byt) (by omega)).mono ?_
      rintro en w7 ⟨r1, rfl, _, hR, hb⟩
      obtain ⟨ρ7, C7, X7, Y7, P7, L7, R7⟩ : ∃ ρ7, Hid (Cx w ρ7 w7) ∧ Hid (Row9 ρ7 9 w7 (.slice ax (la.length + 2) cx) la.length (la ++ [165, 166])) ∧ Hid (Row9 ρ7 10 w7 (.slice ay (lb.length + 2) cy) lb.length (lb ++ [165, 166])) ∧ Hid (w7.heap[b1]? = some (.cells #[.pointer none, .pointer none] 52 (0, 0))) ∧ Hid (ρ7 b1 = 7) ∧ Hid (IsR ρ7 1 w7 r1 la 0) :=
        ⟨_, hid (C6.out.grow hb 1), hid (X6.out.moves (fun k hk _ => hb.block k hk) fun k hk => ext_old hk), hid (Y6.out.moves (fun k hk _ => hb.block k hk) fun k hk => ext_old hk), hid ((hb.block b1 (lt_of_block P6.out)).trans P6.out), hid ((ext_old (lt_of_block P6.out)).trans L6.out), hid hR⟩
      clear hR hb
      (refine hK _ _ (by trivial) ?_; clear hK K; (try simp only [Act.put, List.setIfInBounds_toArray, List.set_cons_zero, List.set_cons_succ]))
      (refine wpE_strong (wpS_do (by rfl) (fun K hK => ?_)); go_simp)
      refine (newReader_any ρ7 3 _ lb _ (Y7.out.front HB.out.byt) (by omega)).mono ?_
      rintro en w8 ⟨r2, rfl, _, hR, hb⟩
      obtain ⟨ρ8, C8, X8, Y8, R8, P8, L8, Q8⟩ : ∃ ρ8, Hid (Cx w ρ8 w8) ∧ Hid (Row9 ρ8 9 w8 (.slice ax (la.length + 2) cx) la.length (la ++ [165, 166])) ∧ Hid (Row9 ρ8 10 w8 (.slice ay (lb.length + 2) cy) lb.length (lb ++ [165, 166])) ∧ Hid (IsR ρ8 1 w8 r1 la 0) ∧ Hid (w8.heap[b1]? = some (.cells #[.pointer none, .pointer none] 52 (0, 0))) ∧ Hid (ρ8 b1 = 7) ∧ Hid (IsR ρ8 3 w8 r2 lb 0) :=
        ⟨_, hid (C7.out.grow hb 3), hid (X7.out.moves (fun k hk _ => hb.block k hk) fun k hk => ext_old hk), hid (Y7.out.moves (fun k hk _ => hb.block k hk) fun k hk => ext_old hk), hid (R7.out.moves (fun k hk _ => hb.block k hk) fun k hk => ext_old hk), hid ((hb.block b1 (lt_of_block P7.out)).trans P7.out), hid ((ext_old (lt_of_block P7.out)).trans L7.out), hid hR⟩
      clear hR hb
      obtain ⟨s0, s1, u0, u1⟩ := cells2 P8.out
      (refine hK _ _ (by trivial) ?_; clear hK K; (try simp only [Act.put, List.setIfInBounds_toArray, List.set_cons_zero, List.set_cons_succ]))
      (repeat (first | (refine wpE_weak (by rfl) ?_; apply Exists.intro; refine ⟨fun wS hS => ?_, ?_⟩; (focus (go_simp; (try with_reducible rfl); done)); simp only [Act.put, List.setIfInBounds_toArray, List.set_cons_zero, List.set_cons_succ]) | (refine wpE_pass (by rfl) ?_; simp only [Act.put, List.setIfInBounds_toArray, List.set_cons_zero, List.set_cons_succ])))
      (refine wpE_strong (wpS_do (by rfl) (fun K hK => ?_)); go_simp)
      (refine hK _ _ (by trivial) ?_; clear hK K; (try simp only [Act.put, List.setIfInBounds_toArray, List.set_cons_zero, List.set_cons_succ]))
      refine wpE_done ?_
      go_wp2_with fail
      go_meet
      have hst : FrO ρ8 7 w8 ((w8.setCell ⟨b1, 0, none⟩ (.pointer (some ⟨r1, 0, none⟩))).setCell ⟨b1, 1, none⟩ (.pointer (some ⟨r2, 0, none⟩))) := (FrO.setCell L8.out _).trans' (FrO.setCell L8.out _)
      exact ⟨ρ8, b1, r1, r2, C8.out.step' hst (by decide), rfl, heap_store (heap_store P8.out _) _, L8.out, R8.out.moves (fun k hk hki => hst.block k hk (by rw [hki]; decide)) (fun _ _ => rfl), Q8.out.moves (fun k hk hki => hst.block k hk (by rw [hki]; decide)) (fun _ _ => rfl), X8.out.moves (fun k hk hki => hst.block k hk (by rw [hki]; decide)) (fun _ _ => rfl), Y8.out.moves (fun k hk hki => hst.block k hk (by rw [hki]; decide)) (fun _ _ => rfl)⟩
  case rest =>
    obtain ⟨ρ, b1, r1, r2, C6, rfl, A6, L6, R6, Q6, X6, Y6⟩ := hcut
    have C6 := hid C6
    have A6 := hid A6
    have L6 := hid L6
    have R6 := hid R6
    have Q6 := hid Q6
    have X6 := hid X6
    have Y6 := hid Y6
    have HA6 := hid (HA.out.below C6.out.bel)
    clear C5 X5 Y5 hsx hsy HA1 HB3 C1
    go_wp2_with fail
    refine (newN_any ρ 2 _ la _ HA6.out (by omega)).mono ?_
    rintro en w7 ⟨y1, rfl, _, hN, hb⟩
    obtain ⟨ρ7, C7, A7, L7, R7, Q7, X7, Y7, M7⟩ : ∃ ρ7, Hid (Cx w ρ7 w7) ∧ Hid (PtrArr w7 b1 52 r1 r2) ∧ Hid (ρ7 b1 = 7) ∧ Hid (IsR ρ7 1 w7 r1 la 0) ∧ Hid (IsR ρ7 3 w7 r2 lb 0) ∧ Hid (Row9 ρ7 9 w7 (.slice ax (la.length + 2) cx) la.length (la ++ [165, 166])) ∧ Hid (Row9 ρ7 10 w7 (.slice ay (lb.length + 2) cy) lb.length (lb ++ [165, 166])) ∧ Hid (IsN ρ7 2 w7 y1 la 0) :=
      ⟨_, hid (C6.out.grow hb 2), hid ((hb.block b1 (lt_of_block A6.out)).trans A6.out), hid ((ext_old (lt_of_block A6.out)).trans L6.out), hid (R6.out.moves (fun k hk _ => hb.block k hk) fun k hk => ext_old hk), hid (Q6.out.moves (fun k hk _ => hb.block k hk) fun k hk => ext_old hk), hid (X6.out.moves (fun k hk _ => hb.block k hk) fun k hk => ext_old hk), hid (Y6.out.moves (fun k hk _ => hb.block k hk) fun k hk => ext_old hk), hid hN⟩
    clear hN hb C6 A6 L6 R6 Q6 X6 Y6 HA6
    have HB7 := hid (HB.out.below C7.out.bel)
    go_wp2_with fail
    refine (newN_any ρ7 4 _ lb _ HB7.out (by omega)).mono ?_
    rintro en w8 ⟨y2, rfl, _, hN, hb⟩
    obtain ⟨ρ8, C8, A8, L8, R8, Q8, X8, Y8, M8, N8⟩ : ∃ ρ8, Hid (Cx w ρ8 w8) ∧ Hid (PtrArr w8 b1 52 r1 r2) ∧ Hid (ρ8 b1 = 7) ∧ Hid (IsR ρ8 1 w8 r1 la 0) ∧ Hid (IsR ρ8 3 w8 r2 lb 0) ∧ Hid (Row9 ρ8 9 w8 (.slice ax (la.length + 2) cx) la.length (la ++ [165, 166])) ∧ Hid (Row9 ρ8 10 w8 (.slice ay (lb.length + 2) cy) lb.length (lb ++ [165, 166])) ∧ Hid (IsN ρ8 2 w8 y1 la 0) ∧ Hid (IsN ρ8 4 w8 y2 lb 0) :=
      ⟨_, hid (C7.out.grow hb 4), hid ((hb.block b1 (lt_of_block A7.out)).trans A7.out), hid ((ext_old (lt_of_block A7.out)).trans L7.out), hid (R7.out.moves (fun k hk _ => hb.block k hk) fun k hk => ext_old hk), hid (Q7.out.moves (fun k hk _ => hb.block k hk) fun k hk => ext_old hk), hid (X7.out.moves (fun k hk _ => hb.block k hk) fun k hk => ext_old hk), hid (Y7.out.moves (fun k hk _ => hb.block k hk) fun k hk => ext_old hk), hid (M7.out.moves (fun k hk _ => hb.block k hk) fun k hk => ext_old hk), hid hN⟩
    clear hN hb C7 A7 L7 R7 Q7 X7 Y7 M7 HB7
    obtain ⟨b2, hb2⟩ : ∃ b, b = w8.heap.size := ⟨_, rfl⟩
    have S9 : Hid (RState w b1 b2 r1 r2 y1 y2 52 55 (.slice ax (la.length + 2) cx) (.slice ay (lb.length + 2) cy) la.length lb.length (la ++ [165, 166]) (lb ++ [165, 166]) (w8.alloc (.cells #[.pointer (some ⟨y1, 0, none⟩), .pointer (some ⟨y2, 0, none⟩)] 55))) :=
      hid ⟨_, la, 0, lb, 0, C8.out.grow (bel_alloc w8 _) 7, ((bel_alloc w8 _).block b1 (lt_of_block A8.out)).trans A8.out, by rw [hb2]; exact heap_alloc_new w8 _, (ext_old (lt_of_block A8.out)).trans L8.out, by rw [hb2]; exact ext_new (Nat.le_refl _),
        R8.out.moves (fun k hk _ => (bel_alloc w8 _).block k hk) (fun k hk => ext_old hk), M8.out.moves (fun k hk _ => (bel_alloc w8 _).block k hk) (fun k hk => ext_old hk), Q8.out.moves (fun k hk _ => (bel_alloc w8 _).block k hk) (fun k hk => ext_old hk), N8.out.moves (fun k hk _ => (bel_alloc w8 _).block k hk) (fun k hk => ext_old hk),
        X8.out.moves (fun k hk _ => (bel_alloc w8 _).block k hk) (fun k hk => ext_old hk), Y8.out.moves (fun k hk _ => (bel_alloc w8 _).block k hk) (fun k hk => ext_old hk)⟩
    obtain ⟨ρ9, _, _, _, _, hC9, hA9, _⟩ := S9.out
    obtain ⟨p0, p1, z0, z1⟩ := cells2 hA9
    have HA9 := hid (HA.out.below hC9.bel)
    clear C8 A8 L8 R8 Q8 X8 Y8 M8 N8 hC9 hA9
    go_wp2_with fail
    rw [← hb2]
    clear hb2
    generalize w8.alloc (.cells #[.pointer (some ⟨y1, 0, none⟩), .pointer (some ⟨y2, 0, none⟩)] 55) = w9 at *
    refine (own_any _ la _ HA9.out (by omega)).mono ?_
    rintro en w10 ⟨v10, rfl, ho, hbo⟩
    obtain ⟨a10, c10, rfl, _, _, _⟩ := own_shape ho
    have HO := hid ho
    have HBo := hid hbo
    have hs10 := hbo.size
    clear ho hbo
    go_wp2_with (at_builtin; refine wpList_append_bytesG rfl _ _ 22 rfl w9.heap.size 5 i0 _ Try.underlying22 hi hz0 hz1 hz2 rfl (.slice a10 la.length c10) _ _ rfl (HO.out.alloc _) _ [165, 166] rfl (Rb.new (lit_bytes (by decide)) (heap_alloc_new w10 _) rfl rfl (by decide)) (by simp; omega) (by simp; omega) ?_; intro a11 c11 w11 ho hg hat)
    have hbel : Below w9.heap.size w9 w11 := (HBo.out.alloc HBo.out.size _).grown hg (by simp; omega) fun g hgb => (HO.out.lt g hgb).1
    have S11 := hid (S9.out.grow hbel)
    have V11 := hid (Rb.of_own (HA.out.byt.append (lit_bytes (l := [165, 166]) (by decide))) (by rw [bts_append]; exact ho))
    clear ho hg hat HO HBo hs10 S9 hbel
    have T11 := hid (S11.out.rowX (HA.out.byt.append (lit_bytes (l := [165, 166]) (by decide))))
    refine (same_any _ _ _ _ _ T11.out V11.out).mono ?_
    rintro en w12 ⟨rfl, rfl⟩
    rw [show decide (la ++ [165, 166] = la ++ [165, 166]) = true from decide_eq_true rfl]
    have HB11 := hid (HB.out.below S11.out.cx)
    clear V11 T11
    go_wp2_with fail
    refine (own_any _ lb _ HB11.out (by omega)).mono ?_
    rintro en w13 ⟨v13, rfl, ho, hbo⟩
    obtain ⟨a13, c13, rfl, _, _, _⟩ := own_shape ho
    have HO := hid ho
    have HBo := hid hbo
    have hs13 := hbo.size
    clear ho hbo
    go_wp2_with (at_builtin; refine wpList_append_bytesG rfl _ _ 22 rfl w12.heap.size 5 i0 _ Try.underlying22 hi hz0 hz1 hz2 rfl (.slice a13 lb.length c13) _ _ rfl (HO.out.alloc _) _ [165, 166] rfl (Rb.new (lit_bytes (by decide)) (heap_alloc_new w13 _) rfl rfl (by decide)) (by simp; omega) (by simp; omega) ?_; intro a14 c14 w14 ho hg hat)
    have hbel : Below w12.heap.size w12 w14 := (HBo.out.alloc HBo.out.size _).grown hg (by simp; omega) fun g hgb => (HO.out.lt g hgb).1
    have S14 := hid (S11.out.grow hbel)
    have V14 := hid (Rb.of_own (HB.out.byt.append (lit_bytes (l := [165, 166]) (by decide))) (by rw [bts_append]; exact ho))
    clear ho hg hat HO HBo hs13 S11 hbel
    have T14 := hid (S14.out.rowY (HB.out.byt.append (lit_bytes (l := [165, 166]) (by decide))))
    refine (same_any _ _ _ _ _ T14.out V14.out).mono ?_
    rintro en w15 ⟨rfl, rfl⟩
    rw [show decide (lb ++ [165, 166] = lb ++ [165, 166]) = true from decide_eq_true rfl]
    clear V14 T14
    go_wp2_with fail
    go_loopw [11] (fun i wr => EEX w b1 b2 r1 r2 y1 y2 52 55 (.slice ax (la.length + 2) cx) (.slice ay (lb.length + 2) cy) la.length lb.length i wr) (fun i _ => la.length + 2 - (intOf i).toNat)
    case atStart => exact ⟨0, _, _, Nat.zero_le _, rfl, S14.out⟩
    case round =>
      obtain ⟨k, la', lb', hk, rfl, hst⟩ := hrel
      have HS := hid hst
      clear hst
      by_cases hlt : k < la.length + 2
      · have hown := HS.out.ownX
        obtain ⟨_, _, e2, hc2', _, hsh⟩ := own_shape hown
        simp only [Value.slice.injEq, true_and] at e2
        obtain ⟨rfl, rfl⟩ := e2
        rcases hsh with ⟨_, h0, _⟩ | ⟨g, rfl⟩
        · omega
        have hxl : la'.length = la.length + 2 := by have := hown.1; rw [bts_length] at this; omega
        have k0 := (World.ownsRow.cellAt hown k (by omega)).trans (bts_some (show k < la'.length by omega))
        have z0 := World.ownsRow.frozenAt hown k
        clear hown
        go_wp2
        go_roundw
        case rel => exact ⟨k + 1, la'.set k 238, lb', by omega, by go_num, HS.out.storeX k 238⟩
        case measure => (simp [intOf]) <;> omega
      · have hkl : k = la.length + 2 := by omega
        subst hkl
        go_wp2_with fail
        go_loopw [12] (fun i wr => EEY w b1 b2 r1 r2 y1 y2 52 55 (.slice ax (la.length + 2) cx) (.slice ay (lb.length + 2) cy) la.length lb.length i wr) (fun i _ => lb.length + 2 - (intOf i).toNat)
        case atStart => exact ⟨0, _, _, Nat.zero_le _, rfl, HS.out⟩
        case round =>
          clear HS
          obtain ⟨k, la', lb', hk, rfl, hst⟩ := hrel
          have HS := hid hst
          clear hst
          by_cases hlt : k < lb.length + 2
          · have hown := HS.out.ownY
            obtain ⟨_, _, e2, hc2', _, hsh⟩ := own_shape hown
            simp only [Value.slice.injEq, true_and] at e2
            obtain ⟨rfl, rfl⟩ := e2
            rcases hsh with ⟨_, h0, _⟩ | ⟨g, rfl⟩
            · omega
            have hxl : lb'.length = lb.length + 2 := by have := hown.1; rw [bts_length] at this; omega
            have k0 := (World.ownsRow.cellAt hown k (by omega)).trans (bts_some (show k < lb'.length by omega))
            have z0 := World.ownsRow.frozenAt hown k
            clear hown
            go_wp2
            go_roundw
            case rel => exact ⟨k + 1, la', lb'.set k 238, by omega, by go_num, HS.out.storeY k 238⟩
            case measure => (simp [intOf]) <;> omega
          · have hkl : k = lb.length + 2 := by omega
            subst hkl
            have HS0 := HS.out
            obtain ⟨ρ0, _, _, _, _, _, hA0, hA1, _⟩ := HS0
            go_wp2_with fail
            go_loopw [13] (fun i wr => RRounds w b1 b2 r1 r2 y1 y2 52 55 (.slice ax (la.length + 2) cx) (.slice ay (lb.length + 2) cy) la.length lb.length ops.length i wr) (fun i _ => ops.length - (intOf i).toNat)
            case atStart => exact ⟨0, _, _, Nat.zero_le _, rfl, HS.out⟩
            case round =>
              clear HS
              obtain ⟨k, la', lb', hk, rfl, hst⟩ := hrel
              have HS := hid hst
              obtain ⟨ρ, l1, e1, l2, e2, C, A1, A2, L1, L2, W, M, V, N, X, Y⟩ := hst
              have C := hid C
              have A1 := hid A1
              have A2 := hid A2
              have L1 := hid L1
              have L2 := hid L2
              have W := hid W
              have M := hid M
              have V := hid V
              have N := hid N
              have X := hid X
              have Y := hid Y
              obtain ⟨a0, a1, _, _⟩ := cells2 A1.out
              obtain ⟨d0, d1, _, _⟩ := cells2 A2.out
              by_cases hlt : k < ops.length
              · obtain ⟨b, off, rfl, hop⟩ := HZ.out k hlt
                generalize ops.getD k default = x at hop
                have hop' := hop.below C.out.bel
                have HX := hid (show OpCells w b (off + k * 5) x from ⟨hop.1, hop.2.1, hop.2.2.1, hop.2.2.2.1, hop.2.2.2.2.1⟩)
                obtain ⟨g0, g1, g2, g3, g4, _⟩ := hop'
                clear hop
                rcases (show x.wh % 2 = 0 ∨ x.wh % 2 = 1 by omega) with hp | hp
                ·
                  have hpar : bits .and .i64 x.wh 1 = 0 := by rw [i64_and1]; omega
                  go_wp2_with fail
                  refine wp_region_canon ((0, false) :: (1, false) :: (2, false) :: (3, false) :: (4, false) :: (5, false) :: (6, false) :: (7, false) :: (8, false) :: (9, false) :: (10, true) :: (11, false) :: []) (fun w' => w'.cell? ⟨b1, 0, none⟩ = some (.pointer (some ⟨r1, 0, none⟩)) ∧ w'.cell? ⟨b2, 0, none⟩ = some (.pointer (some ⟨y1, 0, none⟩)) ∧ OpCells w' b (off + k * 5) x) (by kernel_rfl) (by kernel_rfl) (fun c a d v w h => by cases d <;> exact h) ?_ ?_
                  · exact ⟨a0, d0, g0, g1, g2, g3, g4⟩
                  simp only [pick, List.getElem?_cons_succ, List.getElem?_cons_zero]
                  (repeat (first | (refine wpD_weak (by rfl) ?_; apply Exists.intro; refine ⟨fun wS hS => ?_, ?_⟩; (focus (obtain ⟨f0, f1, f2, f3, f4, f5, f6⟩ := hS; go_simp; (try with_reducible rfl); done)); simp only [Act.put, List.setIfInBounds_toArray, List.set_cons_zero, List.set_cons_succ]) | (refine wpD_pass (by rfl) ?_; simp only [Act.put, List.setIfInBounds_toArray, List.set_cons_zero, List.set_cons_succ])))
                  (refine wpD_strong (by rfl) (fun K hK => ?_); go_simp)
                  refine (reads_any ρ 1 2 r1 y1 _ _ x.kd x.wh x.n x.v x.bv _ (W.out.same (Same.drew _)) (M.out.moves (w' := wr.drew) (ρ' := ρ) (fun k _ _ => rfl) (fun _ _ => rfl)) (by decide) (by decide) (by decide)).mono ?_
                  rintro en w8 ⟨rfl, ρ', l', e', hρ, hW, hM, hF⟩
                  have hF' : FrL ρ [1, 2] wr w8 := (FrL.of_same (Same.drew wr)).trans hF (fun _ _ => rfl)
                  have S' := hid (show RState w b1 b2 r1 r2 y1 y2 _ _ _ _ la.length lb.length la' lb' w8 from ⟨ρ', l', e', l2, e2, C.out.stepL hF' (by decide) hρ, (hF'.block b1 (lt_of_block A1.out) (by rw [L1.out]; decide)).trans A1.out, (hF'.block b2 (lt_of_block A2.out) (by rw [L2.out]; decide)).trans A2.out, (hρ _ (lt_of_block A1.out)).trans L1.out, (hρ _ (lt_of_block A2.out)).trans L2.out, hW, hM, V.out.moves (fun k hk hki => hF'.block k hk (by rw [hki]; decide)) hρ, N.out.moves (fun k hk hki => hF'.block k hk (by rw [hki]; decide)) hρ, X.out.moves (fun k hk hki => hF'.block k hk (by rw [hki]; decide)) hρ, Y.out.moves (fun k hk hki => hF'.block k hk (by rw [hki]; decide)) hρ⟩)
                  have P1 := hid (show PtrArr w8 b1 _ r1 r2 from (hF'.block b1 (lt_of_block A1.out) (by rw [L1.out]; decide)).trans A1.out)
                  have P2 := hid (show PtrArr w8 b2 _ y1 y2 from (hF'.block b2 (lt_of_block A2.out) (by rw [L2.out]; decide)).trans A2.out)
                  (refine hK _ _ (by exact ⟨(cells2 P1.out).1, (cells2 P2.out).1, HX.out.below S'.out.cx⟩) ?_; clear hK K; (try simp only [Act.put, List.setIfInBounds_toArray, List.set_cons_zero, List.set_cons_succ]))
                  (repeat (first | (refine wpD_weak (by rfl) ?_; apply Exists.intro; refine ⟨fun wS hS => ?_, ?_⟩; (focus (go_simp; (try with_reducible rfl); done)); simp only [Act.put, List.setIfInBounds_toArray, List.set_cons_zero, List.set_cons_succ]) | (refine wpD_pass (by rfl) ?_; simp only [Act.put, List.setIfInBounds_toArray, List.set_cons_zero, List.set_cons_succ])))
                  refine wpD_nil ?_
                  go_wp2_with fail
                  go_roundw
                  case rel => (repeat apply Exists.intro); exact ⟨⟨k + 1, la', lb', by omega, by go_num, S'.out⟩, rfl⟩
                  case measure => (simp [intOf]) <;> omega
                ·
                  have hpar : bits .and .i64 x.wh 1 = 1 := by rw [i64_and1]; omega
                  go_wp2_with fail
                  refine wp_region_canon ((0, false) :: (1, false) :: (2, false) :: (3, false) :: (4, false) :: (5, false) :: (6, false) :: (7, false) :: (8, false) :: (9, false) :: (10, true) :: (11, false) :: []) (fun w' => w'.cell? ⟨b1, 1, none⟩ = some (.pointer (some ⟨r2, 0, none⟩)) ∧ w'.cell? ⟨b2, 1, none⟩ = some (.pointer (some ⟨y2, 0, none⟩)) ∧ OpCells w' b (off + k * 5) x) (by kernel_rfl) (by kernel_rfl) (fun c a d v w h => by cases d <;> exact h) ?_ ?_
                  · exact ⟨a1, d1, g0, g1, g2, g3, g4⟩
                  simp only [pick, List.getElem?_cons_succ, List.getElem?_cons_zero]
                  (repeat (first | (refine wpD_weak (by rfl) ?_; apply Exists.intro; refine ⟨fun wS hS => ?_, ?_⟩; (focus (obtain ⟨f0, f1, f2, f3, f4, f5, f6⟩ := hS; go_simp; (try with_reducible rfl); done)); simp only [Act.put, List.setIfInBounds_toArray, List.set_cons_zero, List.set_cons_succ]) | (refine wpD_pass (by rfl) ?_; simp only [Act.put, List.setIfInBounds_toArray, List.set_cons_zero, List.set_cons_succ])))
                  (refine wpD_strong (by rfl) (fun K hK => ?_); go_simp)
                  refine (reads_any ρ 3 4 r2 y2 _ _ x.kd x.wh x.n x.v x.bv _ (V.out.same (Same.drew _)) (N.out.moves (w' := wr.drew) (ρ' := ρ) (fun k _ _ => rfl) (fun _ _ => rfl)) (by decide) (by decide) (by decide)).mono ?_
                  rintro en w8 ⟨rfl, ρ', l', e', hρ, hW, hM, hF⟩
                  have hF' : FrL ρ [3, 4] wr w8 := (FrL.of_same (Same.drew wr)).trans hF (fun _ _ => rfl)
                  have S' := hid (show RState w b1 b2 r1 r2 y1 y2 _ _ _ _ la.length lb.length la' lb' w8 from ⟨ρ', l1, e1, l', e', C.out.stepL hF' (by decide) hρ, (hF'.block b1 (lt_of_block A1.out) (by rw [L1.out]; decide)).trans A1.out, (hF'.block b2 (lt_of_block A2.out) (by rw [L2.out]; decide)).trans A2.out, (hρ _ (lt_of_block A1.out)).trans L1.out, (hρ _ (lt_of_block A2.out)).trans L2.out, W.out.moves (fun k hk hki => hF'.block k hk (by rw [hki]; decide)) hρ, M.out.moves (fun k hk hki => hF'.block k hk (by rw [hki]; decide)) hρ, hW, hM, X.out.moves (fun k hk hki => hF'.block k hk (by rw [hki]; decide)) hρ, Y.out.moves (fun k hk hki => hF'.block k hk (by rw [hki]; decide)) hρ⟩)
                  have P1 := hid (show PtrArr w8 b1 _ r1 r2 from (hF'.block b1 (lt_of_block A1.out) (by rw [L1.out]; decide)).trans A1.out)
                  have P2 := hid (show PtrArr w8 b2 _ y1 y2 from (hF'.block b2 (lt_of_block A2.out) (by rw [L2.out]; decide)).trans A2.out)
                  (refine hK _ _ (by exact ⟨(cells2 P1.out).2.1, (cells2 P2.out).2.1, HX.out.below S'.out.cx⟩) ?_; clear hK K; (try simp only [Act.put, List.setIfInBounds_toArray, List.set_cons_zero, List.set_cons_succ]))
                  (repeat (first | (refine wpD_weak (by rfl) ?_; apply Exists.intro; refine ⟨fun wS hS => ?_, ?_⟩; (focus (go_simp; (try with_reducible rfl); done)); simp only [Act.put, List.setIfInBounds_toArray, List.set_cons_zero, List.set_cons_succ]) | (refine wpD_pass (by rfl) ?_; simp only [Act.put, List.setIfInBounds_toArray, List.set_cons_zero, List.set_cons_succ])))
                  refine wpD_nil ?_
                  go_wp2_with fail
                  go_roundw
                  case rel => (repeat apply Exists.intro); exact ⟨⟨k + 1, la', lb', by omega, by go_num, S'.out⟩, rfl⟩
                  case measure => (simp [intOf]) <;> omega
              · have hkl : k = ops.length := by omega
                subst hkl
                go_wp2_with fail
                refine (reads_any ρ 1 2 r1 y1 _ _ 5 0 0 0 _ _ W.out M.out (by decide) (by decide) (by decide)).mono ?_
                rintro en w8 ⟨rfl, ρ', l', e', hρ, hW, hM, hF'⟩
                obtain ⟨C8, A18, A28, V8, N8, L8, K8, W8, M8⟩ : Hid (Cx w ρ' w8) ∧ Hid (PtrArr w8 b1 _ r1 r2) ∧ Hid (PtrArr w8 b2 _ y1 y2) ∧ Hid (IsR ρ' 3 w8 r2 l2 e2) ∧ Hid (IsN ρ' 4 w8 y2 l2 e2) ∧ Hid (ρ' b1 = 7) ∧ Hid (ρ' b2 = 7) ∧ Hid (IsR ρ' 1 w8 r1 l' e') ∧ Hid (IsN ρ' 2 w8 y1 l' e') :=
                  ⟨hid (C.out.stepL hF' (by decide) hρ), hid ((hF'.block b1 (lt_of_block A1.out) (by rw [L1.out]; decide)).trans A1.out), hid ((hF'.block b2 (lt_of_block A2.out) (by rw [L2.out]; decide)).trans A2.out), hid (V.out.moves (fun k hk hki => hF'.block k hk (by rw [hki]; decide)) hρ), hid (N.out.moves (fun k hk hki => hF'.block k hk (by rw [hki]; decide)) hρ), hid ((hρ _ (lt_of_block A1.out)).trans L1.out), hid ((hρ _ (lt_of_block A2.out)).trans L2.out), hid hW, hid hM⟩
                obtain ⟨t0, t1, _, _⟩ := cells2 A18.out
                obtain ⟨s0, s1, _, _⟩ := cells2 A28.out
                clear hρ hW hM hF' W M V N C A1 A2 L1 L2 X Y HS
                go_wp2_with fail
                refine (reads_any ρ' 3 4 r2 y2 _ _ 5 0 0 0 _ _ V8.out N8.out (by decide) (by decide) (by decide)).mono ?_
                rintro en w9 ⟨rfl, ρ'', l'', e'', hρ, hW, hM, hF'⟩
                obtain ⟨C9, A19, A29, W9, M9⟩ : Hid (Cx w ρ'' w9) ∧ Hid (PtrArr w9 b1 _ r1 r2) ∧ Hid (PtrArr w9 b2 _ y1 y2) ∧ Hid (IsR ρ'' 1 w9 r1 l' e') ∧ Hid (IsN ρ'' 2 w9 y1 l' e') :=
                  ⟨hid (C8.out.stepL hF' (by decide) hρ), hid ((hF'.block b1 (lt_of_block A18.out) (by rw [L8.out]; decide)).trans A18.out), hid ((hF'.block b2 (lt_of_block A28.out) (by rw [K8.out]; decide)).trans A28.out), hid (W8.out.moves (fun k hk hki => hF'.block k hk (by rw [hki]; decide)) hρ), hid (M8.out.moves (fun k hk hki => hF'.block k hk (by rw [hki]; decide)) hρ)⟩
                obtain ⟨t0, t1, _, _⟩ := cells2 A19.out
                obtain ⟨s0, s1, _, _⟩ := cells2 A29.out
                clear hρ hW hM hF' W8 M8 V8 N8 C8 A18 A28 L8 K8
                go_wp2_with fail
                refine (reads_any ρ'' 1 2 r1 y1 _ _ 1 0 0 0 _ _ W9.out M9.out (by decide) (by decide) (by decide)).mono ?_
                rintro en w10 ⟨rfl, ρ3, l3, e3, hρ, hW, hM, hF'⟩
                have C10 := hid (C9.out.stepL (ρ' := ρ3) hF' (by decide) hρ)
                clear hρ hW hM hF'
                go_wp2_with fail
                go_ret
                exact ⟨rfl, C10.out.bel⟩

end Go.Proofs.Ytniiigidedcpaaa
