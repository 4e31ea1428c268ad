/-
  writes: one call on a writer and on the document's: both write the same.
-/
import Derived.Test.YtniiigidedcpaaaMoves
import Derived.Deep.CutBlock
import Derived.Deep.DeepCutAuto
namespace Go.Proofs.Ytniiigidedcpaaa
open Go.RowKit

/-- what one call leaves: both wrote the same, and have the same error; nothing else has turned -/
def WritesPost (ρ : Nat → Nat) (i j wb mb : Nat) (lim : Int) (w : World) (en : Ending) (w' : World) : Prop :=
  en = .returned (.bool true) ∧ ∃ ρ' l e, (∀ k, k < w.heap.size → ρ' k = ρ k) ∧ IsW ρ' i w' wb l lim e ∧ IsM ρ' j w' mb l lim e ∧ FrL ρ [i, j] w w'
/-- what holds behind the switch -/
def MidPost (ρ : Nat → Nat) (i j wb mb : Nat) (lim : Int) (bx : Array Value) (bv : Value) (B : List Int) (w w' : World) : Prop :=
  ∃ ρ' l e, (∀ k, k < w.heap.size → ρ' k = ρ k) ∧ IsW ρ' i w' wb l lim e ∧ IsM ρ' j w' mb l lim e ∧ FrL ρ [i, j] w w' ∧
    w'.heap[w.heap.size]? = some (.cells bx 49 (0, 0)) ∧ w'.ownsRow w.heap.size 5 1 bv (B.length + 2) (bts (B ++ [165, 166])) ∧ Lab ρ' 9 bv


/-- the round in which all bytes are written over -/
def EERel (ρ : Nat → Nat) (base : Nat) (bv : Value) (n : Nat) (w0 : World) (i : Value) (wr : World) : Prop :=
  ∃ (k : Nat) (xs : List Int), k ≤ n ∧ i = .int .i64 k ∧ wr.ownsRow base 5 1 bv n (bts xs) ∧ FrO ρ 9 w0 wr ∧ Below base w0 wr
theorem own_len {a : Option Addr} {n c n' c' : Nat} : (Value.slice a n c).ownBlock = (Value.slice a n' c').ownBlock := by cases a <;> rfl
theorem box_keep {ρ ρ2 : Nat → Nat} {i : Nat} {bx : Array Value} {w w2 w3 : World} (h2 : ρ2 = ext ρ w.heap.size 9) (hx : w2.heap[w.heap.size]? = some (.cells bx 49 (0, 0))) (hF3 : FrO ρ2 i w2 w3) (hi9 : i ≠ 9) :
    w3.heap[w.heap.size]? = some (.cells bx 49 (0, 0)) := by
  rw [hF3.block _ (lt_of_block hx) (by rw [h2, ext_new (Nat.le_refl _)]; exact fun e => hi9 e.symm)]; exact hx
theorem mid_mk {ρ ρ2 ρ3 ρ4 : Nat → Nat} {i j wb mb : Nat} {lim e' : Int} {l' : List Int} {bx : Array Value} {bv : Value} {B : List Int} {w w2 w3 w4 : World} (hij : i ≠ j) (hi9 : i ≠ 9) (hj9 : j ≠ 9)
    (h2 : ρ2 = ext ρ w.heap.size 9) (h3 : ∀ k, k < w2.heap.size → ρ3 k = ρ2 k) (h4 : ∀ k, k < w3.heap.size → ρ4 k = ρ3 k) (hf : FrL ρ [i, j] w w2) (hx : w2.heap[w.heap.size]? = some (.cells bx 49 (0, 0)))
    (ho : w2.ownsRow w.heap.size 5 1 bv (B.length + 2) (bts (B ++ [165, 166]))) (hW : IsW ρ3 i w3 wb l' lim e') (hF3 : FrO ρ2 i w2 w3) (hM : IsM ρ4 j w4 mb l' lim e') (hF4 : FrO ρ3 j w3 w4) :
    MidPost ρ i j wb mb lim bx bv B w w4 := by
  have h2' : ∀ k, k < w.heap.size → ρ2 k = ρ k := fun k hk => by rw [h2]; exact ext_old hk
  have hs2 := hf.size
  have hs3 := hF3.size
  have f3 : FrL ρ [i, j] w w3 := hf.trans (FrL.of hF3 (by simp)) h2'
  have h3' : ∀ k, k < w.heap.size → ρ3 k = ρ k := fun k hk => by rw [h3 k (by omega)]; exact h2' k hk
  have f4 : FrL ρ [i, j] w w4 := f3.trans (FrL.of hF4 (by simp)) h3'
  have new2 : ∀ k, w.heap.size ≤ k → ρ2 k = 9 := fun k hk => by rw [h2]; exact ext_new hk
  have keep : ∀ k, w.heap.size ≤ k → k < w2.heap.size → w4.heap[k]? = w2.heap[k]? := fun k hk hlt => by
    rw [hF4.block k (by omega) (by rw [h3 k hlt, new2 k hk]; exact fun e => hj9 e.symm), hF3.block k hlt (by rw [new2 k hk]; exact fun e => hi9 e.symm)]
  refine ⟨ρ4, l', e', fun k hk => by rw [h4 k (by omega)]; exact h3' k hk, hW.moves (fun k hk hki => hF4.block k hk (by rw [hki]; exact hij)) h4, hM, f4, ?_, own_move ho fun b hb hlt => keep b (ho.lt b hb).1 hlt, fun b hb => ?_⟩
  · rw [keep _ (Nat.le_refl _) (lt_of_block hx)]; exact hx
  · have := own_lt ho hb
    rw [h4 b (by omega), h3 b this]
    exact new2 b (ho.lt b hb).1

set_option maxHeartbeats 6400000 in
set_option maxRecDepth 20000 in
theorem writes_any (ρ : Nat → Nat) (i j wb mb : Nat) (l : List Int) (lim e kd wh n v : Int) (bv : Value) (B : List Int) (w : World) (h : IsW ρ i w wb l lim e) (hm : IsM ρ j w mb l lim e) (hij : i ≠ j) (hi9 : i ≠ 9) (hj9 : j ≠ 9)
    (hb : Rb w bv B) (hlen : B.length + 2 ≤ 140737488355328) (hbi : B ≠ [] → ∀ b, bv.ownBlock = some b → ρ b ≠ i ∧ ρ b ≠ j) (hn0 : -9223372036854775808 ≤ n) (hn1 : n ≤ 9223372036854775807) (hv0 : 0 ≤ v) (hv1 : v ≤ 4294967295) :
    Calls Try.prog 22 #[.pointer (some ⟨wb, 0, none⟩), .pointer (some ⟨mb, 0, none⟩), .agg #[.int .i64 kd, .int .i64 wh, .int .i64 n, .int .u32 v, bv]] w (WritesPost ρ i j wb mb lim w) := by
  obtain ⟨i0, hi, hz0, hz1, hz2⟩ := info_parts Try.info5
  have HB := hid hb
  obtain ⟨a, cap, rfl, hcp, hmx, hz⟩ := hb.open
  have HW := hid h
  have HM := hid hm
  have HBI := hid hbi
  clear h hm hbi hb hz
  go_enter Try.func22, Try.ntmps22
  go_wp2_with fail
  have B1 := hid (HB.out.below (bel_alloc w (.cells #[.int .i64 kd, .int .i64 wh, .int .i64 n, .int .u32 v, .slice a B.length cap] 49)))
  refine (own_any _ B _ B1.out (by omega)).mono ?_
  rintro en w1 ⟨v1, rfl, ho, hb1⟩
  obtain ⟨a1, c1, rfl, _, _, _⟩ := own_shape ho
  have HO := hid (own_base (base' := w.heap.size) ho (by simp))
  have X1 := hid (show w1.heap[w.heap.size]? = _ from (hb1.block w.heap.size (by simp)).trans (heap_alloc_new w _))
  have BL1 := hid ((bel_alloc w (.cells #[.int .i64 kd, .int .i64 wh, .int .i64 n, .int .u32 v, .slice a B.length cap] 49)).trans (hb1.mono (by simp)))
  clear ho hb1
  have hs1 := BL1.out.size
  go_upto_region 2 with (at_builtin; refine wpList_append_bytes rfl _ _ 22 rfl w.heap.size 5 i0 _ Try.underlying22 hi hz0 hz1 hz2 rfl (.slice a1 B.length c1) _ _ rfl (HO.out.alloc _) _ [165, 166] rfl (Rb.new (by intro x hx; simp at hx; omega) (heap_alloc_new w1 _) rfl rfl (by decide)) (by simp; omega) (by simp; omega) ?_; intro a2 c2 w2 ho hg hat)
  have X2 := hid (tblock_grown (by decide) ((Below.heap_alloc w1 _ _ (by have := lt_of_block X1.out; exact this)).trans X1.out) (HO.out.alloc _) hg)
  obtain ⟨q0, q1, q2, q3, q4, z0, z1, z2, z3, z4⟩ := cells5 X2.out
  have hbel : Below w.heap.size w w2 := (BL1.out.alloc BL1.out.size _).grown hg (by simp; omega) fun g hgb => (HO.out.lt g hgb).1
  have HO2 := hid (show w2.ownsRow w.heap.size 5 1 (.slice a2 (B.length + 2) c2) (B.length + 2) (bts (B ++ [165, 166])) by rw [bts_append]; exact ho)
  have F2 := hid (FrL.of_below (ρ := ρ) (L := [i, j]) hbel)
  obtain ⟨ρ2, h2⟩ : ∃ ρ2, ρ2 = ext ρ w.heap.size 9 := ⟨_, rfl⟩
  have h2' : ∀ k, k < w.heap.size → ρ2 k = ρ k := fun k hk => by rw [h2]; exact ext_old hk
  have W2 := hid (HW.out.moves (fun k hk _ => hbel.block k hk) h2')
  have M2 := hid (HM.out.moves (fun k hk _ => hbel.block k hk) h2')
  have H2 := hid h2
  have B2 := hid (HB.out.below hbel)
  have V2 := hid (Rb.of_own (HB.out.byt.append (lit_bytes (by decide))) HO2.out)
  have L2 := hid (show Lab ρ2 9 (.slice a2 (B.length + 2) c2) from fun b hb => by rw [h2]; exact ext_new (HO2.out.lt b hb).1)
  obtain ⟨_, _, e2, hc2, _, _⟩ := own_shape HO2.out
  simp only [Value.slice.injEq, true_and] at e2
  obtain ⟨rfl, rfl⟩ := e2
  have hs2 := hbel.size
  clear ho hg hat hbel h2 h2'
  go_upto_block 0 with fail
  go_cut [] from 8 (fun wc => MidPost ρ i j wb mb lim #[.int .i64 kd, .int .i64 wh, .int .i64 n, .int .u32 v, .slice a B.length cap] (.slice a2 (B.length + 2) c2) B w wc)
  case first =>
    by_cases k1 : kd = 1
    · subst k1
      go_wp2_with fail
      refine (wU8_any ρ2 i wb l lim e (v % 256) _ W2.out (by omega) (by omega)).mono ?_
      rintro en w3 ⟨rfl, hW3, hF3⟩
      obtain ⟨ρ3, h3⟩ : ∃ ρ3, ρ3 = ext ρ2 w2.heap.size i := ⟨_, rfl⟩
      rw [← h3] at hW3
      have h3' : ∀ k, k < w2.heap.size → ρ3 k = ρ2 k := fun k hk => by rw [h3]; exact ext_old hk
      have X3 := box_keep H2.out X2.out hF3 hi9
      obtain ⟨p0, p1, p2, p3, p4, y0, y1, y2, y3, y4⟩ := cells5 X3
      have M3 := hid (M2.out.moves (ρ' := ρ3) (fun k hk hki => hF3.block k hk (by rw [hki]; exact fun e => hij e.symm)) h3')
      have FF := F2.out.trans (FrL.of hF3 (by simp)) (fun k hk => by rw [H2.out]; exact ext_old hk)
      have B3 := hid (HB.out.move fun hne b hb hlt => FF.block b hlt (by have := HBI.out hne b hb; simp [this]))
      have HW3 := hid hW3
      have HF3 := hid hF3
      have H3 := hid h3'
      clear hW3 hF3 h3 h3' X3 FF
      go_wp2_with fail
      refine (mNumber_any ρ3 j mb l lim e (v % 256) 1 _ M3.out (by omega) (by omega) (by omega)).mono ?_
      rintro en w4 ⟨rfl, hM4, hF4⟩
      have MID := hid (mid_mk hij hi9 hj9 H2.out H3.out (ρ4 := ext ρ3 w3.heap.size j) (fun k hk => ext_old hk) F2.out X2.out HO2.out HW3.out HF3.out hM4 hF4)
      clear hM4 hF4
      go_wp2_with fail
      go_meet
      exact MID.out
    by_cases k2 : kd = 2
    · subst k2
      go_wp2_with fail
      refine (wU16_any ρ2 i wb l lim e (v % 65536) _ W2.out (by omega) (by omega)).mono ?_
      rintro en w3 ⟨rfl, hW3, hF3⟩
      obtain ⟨ρ3, h3⟩ : ∃ ρ3, ρ3 = ext ρ2 w2.heap.size i := ⟨_, rfl⟩
      rw [← h3] at hW3
      have h3' : ∀ k, k < w2.heap.size → ρ3 k = ρ2 k := fun k hk => by rw [h3]; exact ext_old hk
      have X3 := box_keep H2.out X2.out hF3 hi9
      obtain ⟨p0, p1, p2, p3, p4, y0, y1, y2, y3, y4⟩ := cells5 X3
      have M3 := hid (M2.out.moves (ρ' := ρ3) (fun k hk hki => hF3.block k hk (by rw [hki]; exact fun e => hij e.symm)) h3')
      have FF := F2.out.trans (FrL.of hF3 (by simp)) (fun k hk => by rw [H2.out]; exact ext_old hk)
      have B3 := hid (HB.out.move fun hne b hb hlt => FF.block b hlt (by have := HBI.out hne b hb; simp [this]))
      have HW3 := hid hW3
      have HF3 := hid hF3
      have H3 := hid h3'
      clear hW3 hF3 h3 h3' X3 FF
      go_wp2_with fail
      refine (mNumber_any ρ3 j mb l lim e (v % 65536) 2 _ M3.out (by omega) (by omega) (by omega)).mono ?_
      rintro en w4 ⟨rfl, hM4, hF4⟩
      have MID := hid (mid_mk hij hi9 hj9 H2.out H3.out (ρ4 := ext ρ3 w3.heap.size j) (fun k hk => ext_old hk) F2.out X2.out HO2.out HW3.out HF3.out hM4 hF4)
      clear hM4 hF4
      go_wp2_with fail
      go_meet
      exact MID.out
    by_cases k3 : kd = 3
    · subst k3
      go_wp2_with fail
      refine (wU32_any ρ2 i wb l lim e v _ W2.out).mono ?_
      rintro en w3 ⟨rfl, hW3, hF3⟩
      obtain ⟨ρ3, h3⟩ : ∃ ρ3, ρ3 = ext ρ2 w2.heap.size i := ⟨_, rfl⟩
      rw [← h3] at hW3
      have h3' : ∀ k, k < w2.heap.size → ρ3 k = ρ2 k := fun k hk => by rw [h3]; exact ext_old hk
      have X3 := box_keep H2.out X2.out hF3 hi9
      obtain ⟨p0, p1, p2, p3, p4, y0, y1, y2, y3, y4⟩ := cells5 X3
      have M3 := hid (M2.out.moves (ρ' := ρ3) (fun k hk hki => hF3.block k hk (by rw [hki]; exact fun e => hij e.symm)) h3')
      have FF := F2.out.trans (FrL.of hF3 (by simp)) (fun k hk => by rw [H2.out]; exact ext_old hk)
      have B3 := hid (HB.out.move fun hne b hb hlt => FF.block b hlt (by have := HBI.out hne b hb; simp [this]))
      have HW3 := hid hW3
      have HF3 := hid hF3
      have H3 := hid h3'
      clear hW3 hF3 h3 h3' X3 FF
      go_wp2_with fail
      refine (mNumber_any ρ3 j mb l lim e v 4 _ M3.out (by omega) (by omega) (by omega)).mono ?_
      rintro en w4 ⟨rfl, hM4, hF4⟩
      have MID := hid (mid_mk hij hi9 hj9 H2.out H3.out (ρ4 := ext ρ3 w3.heap.size j) (fun k hk => ext_old hk) F2.out X2.out HO2.out HW3.out HF3.out hM4 hF4)
      clear hM4 hF4
      go_wp2_with fail
      go_meet
      exact MID.out
    by_cases k4 : kd = 4
    · subst k4
      have VF := hid (V2.out.front B.length (by simp))
      have ht : (B ++ [165, 166]).take B.length = B := by simp
      rw [ht] at VF
      clear ht
      have hsl := fun W => run_slice_h_sub (P := Try.prog) 22 5 Try.underlying22 hi hz1 a2 (B.length + 2) c2 .i64 B.length B.length rfl (by omega) W
      go_wp2_with fail
      refine (wBytes_any ρ2 i 9 wb l B lim e _ _ W2.out VF.out (fun _ b hb => L2.out b ((own_len (n := B.length) (c := c2)).symm.trans hb)) (fun e => hi9 e.symm) (by omega)).mono ?_
      rintro en w3 ⟨rfl, hW3, hF3⟩
      obtain ⟨ρ3, h3⟩ : ∃ ρ3, ρ3 = ext ρ2 w2.heap.size i := ⟨_, rfl⟩
      rw [← h3] at hW3
      have h3' : ∀ k, k < w2.heap.size → ρ3 k = ρ2 k := fun k hk => by rw [h3]; exact ext_old hk
      have X3 := box_keep H2.out X2.out hF3 hi9
      obtain ⟨p0, p1, p2, p3, p4, y0, y1, y2, y3, y4⟩ := cells5 X3
      have M3 := hid (M2.out.moves (ρ' := ρ3) (fun k hk hki => hF3.block k hk (by rw [hki]; exact fun e => hij e.symm)) h3')
      have FF := F2.out.trans (FrL.of hF3 (by simp)) (fun k hk => by rw [H2.out]; exact ext_old hk)
      have B3 := hid (HB.out.move fun hne b hb hlt => FF.block b hlt (by have := HBI.out hne b hb; simp [this]))
      have HW3 := hid hW3
      have HF3 := hid hF3
      have H3 := hid h3'
      clear hW3 hF3 h3 h3' X3 FF
      go_wp2_with fail
      refine (mBytes_any ρ3 j mb l B lim e _ _ M3.out B3.out (by omega)).mono ?_
      rintro en w4 ⟨rfl, hM4, hF4⟩
      have MID := hid (mid_mk hij hi9 hj9 H2.out H3.out (ρ4 := ext ρ3 w3.heap.size j) (fun k hk => ext_old hk) F2.out X2.out HO2.out HW3.out HF3.out hM4 hF4)
      clear hM4 hF4
      go_wp2_with fail
      go_meet
      exact MID.out
    by_cases k6 : kd = 6
    · subst k6
      go_wp2_with fail
      refine (wPut16_any ρ2 i wb l lim e n (v % 65536) _ W2.out hn0 hn1 (by omega) (by omega)).mono ?_
      rintro en w3 ⟨rfl, hW3, hF3⟩
      obtain ⟨ρ3, h3⟩ : ∃ ρ3, ρ3 = ext ρ2 w2.heap.size i := ⟨_, rfl⟩
      rw [← h3] at hW3
      have h3' : ∀ k, k < w2.heap.size → ρ3 k = ρ2 k := fun k hk => by rw [h3]; exact ext_old hk
      have X3 := box_keep H2.out X2.out hF3 hi9
      obtain ⟨p0, p1, p2, p3, p4, y0, y1, y2, y3, y4⟩ := cells5 X3
      have M3 := hid (M2.out.moves (ρ' := ρ3) (fun k hk hki => hF3.block k hk (by rw [hki]; exact fun e => hij e.symm)) h3')
      have FF := F2.out.trans (FrL.of hF3 (by simp)) (fun k hk => by rw [H2.out]; exact ext_old hk)
      have B3 := hid (HB.out.move fun hne b hb hlt => FF.block b hlt (by have := HBI.out hne b hb; simp [this]))
      have HW3 := hid hW3
      have HF3 := hid hF3
      have H3 := hid h3'
      clear hW3 hF3 h3 h3' X3 FF
      go_wp2_with fail
      refine (mPut16_any ρ3 j mb l lim e n (v % 65536) _ M3.out hn0 hn1 (by omega) (by omega)).mono ?_
      rintro en w4 ⟨rfl, hM4, hF4⟩
      have MID := hid (mid_mk hij hi9 hj9 H2.out H3.out (ρ4 := ext ρ3 w3.heap.size j) (fun k hk => ext_old hk) F2.out X2.out HO2.out HW3.out HF3.out hM4 hF4)
      clear hM4 hF4
      go_wp2_with fail
      go_meet
      exact MID.out
    by_cases k5 : kd = 5
    · subst k5
      go_wp2_with fail
      refine (wOut_any ρ2 i wb l lim e _ W2.out).mono ?_
      rintro en w3 ⟨v3, rfl, ho3, hb3⟩
      have hEb : Byt (if e = 0 then l else []) := by split; exact W2.out.2.1; exact Byt.nil
      have R3 := hid (Rb.of_own hEb ho3)
      have W3 := hid (W2.out.moves (ρ' := ρ2) (fun k hk _ => hb3.block k hk) fun _ _ => rfl)
      have M3 := hid (M2.out.moves (ρ' := ρ2) (fun k hk _ => hb3.block k hk) fun _ _ => rfl)
      have HB3 := hid hb3
      clear ho3 hb3
      go_wp2_with fail
      refine (mOut_any ρ2 j mb l lim e _ M3.out).mono ?_
      rintro en w4 ⟨v4, rfl, ho4, hb4⟩
      have R4 := hid (Rb.of_own hEb ho4)
      have R34 := hid (R3.out.below hb4)
      have W4 := hid (W3.out.moves (ρ' := ρ2) (fun k hk _ => hb4.block k hk) fun _ _ => rfl)
      have M4 := hid (M3.out.moves (ρ' := ρ2) (fun k hk _ => hb4.block k hk) fun _ _ => rfl)
      have HB4 := hid (HB3.out.trans (hb4.mono HB3.out.size))
      have MID := hid (mid_mk hij hi9 hj9 H2.out (fun _ _ => rfl) (ρ4 := ρ2) (fun k hk => rfl) F2.out X2.out HO2.out W4.out (FrO.of_below HB4.out) M4.out (FrO.refl _ _ _))
      clear ho4 hb4 hEb
      go_wp2_with fail
      refine (same_any _ _ _ _ _ R34.out R4.out).mono ?_
      rintro en w5 ⟨rfl, rfl⟩
      have hd : decide ((if e = 0 then l else []) = (if e = 0 then l else [])) = true := decide_eq_true rfl
      rw [hd]
      go_wp2_with fail
      go_meet
      exact MID.out
    · have MID := hid (mid_mk hij hi9 hj9 H2.out (fun _ _ => rfl) (ρ4 := ρ2) (fun k hk => rfl) F2.out X2.out HO2.out W2.out (FrO.refl _ _ _) M2.out (FrO.refl _ _ _))
      go_wp2_with fail
      go_meet
      exact MID.out
  case rest =>
    have HC := hid hcut
    obtain ⟨ρ3, l3, e3, h3, W3, M3, F3, X3, O3, L3⟩ := hcut
    have W3 := hid W3
    have M3 := hid M3
    have F3 := hid F3
    have O3 := hid O3
    have L3 := hid L3
    have H3 := hid h3
    have B3 := hid (HB.out.move fun hne b hb hlt => F3.out.block b hlt (by have := HBI.out hne b hb; simp [this]))
    have V3 := hid (Rb.of_own (HB.out.byt.append (lit_bytes (by decide))) O3.out)
    obtain ⟨p0, p1, p2, p3, p4, y0, y1, y2, y3, y4⟩ := cells5 X3
    have hs3 := F3.out.size
    clear W2 M2 B2 V2 L2 X2 HO2 B1 X1 BL1 HO q0 q1 q2 q3 q4 z0 z1 z2 z3 z4 h3 X3 HC
    go_wp2_with fail
    refine (own_any _ B _ B3.out (by omega)).mono ?_
    rintro en w4 ⟨v4, rfl, ho, hb4⟩
    obtain ⟨a4, c4, rfl, _, _, _⟩ := own_shape ho
    have O4 := hid ho
    have B4 := hid hb4
    have hs4 := hb4.size
    clear ho hb4
    go_wp2_with (at_builtin; refine wpList_append_bytes rfl _ _ 22 rfl wc.heap.size 5 i0 _ Try.underlying22 hi hz0 hz1 hz2 rfl (.slice a4 B.length c4) _ _ rfl (O4.out.alloc _) _ [165, 166] rfl (Rb.new (lit_bytes (by decide)) (heap_alloc_new w4 _) rfl rfl (by decide)) (by simp; omega) (by simp; omega) ?_; intro a5 c5 w5 ho hg hat)
    have hbel : Below wc.heap.size wc w5 := (B4.out.alloc B4.out.size _).grown hg (by simp; omega) fun g hgb => (O4.out.lt g hgb).1
    have V5 := hid (Rb.of_own (HB.out.byt.append (lit_bytes (l := [165, 166]) (by decide))) (by rw [bts_append]; exact ho))
    have V35 := hid (V3.out.below hbel)
    have O5 := hid (own_move O3.out fun b _ hlt => hbel.block b hlt)
    have W5 := hid (W3.out.moves (ρ' := ρ3) (fun k hk _ => hbel.block k hk) fun _ _ => rfl)
    have M5 := hid (M3.out.moves (ρ' := ρ3) (fun k hk _ => hbel.block k hk) fun _ _ => rfl)
    have F5 := hid (F3.out.trans (FrL.of_below (ρ := ρ3) hbel) H3.out)
    clear ho hg hat hbel W3 M3 F3 O3 V3 B3 O4 B4
    go_wp2_with fail
    refine (same_any _ _ _ _ _ V35.out V5.out).mono ?_
    rintro en w6 ⟨rfl, rfl⟩
    have hd : decide ((B ++ [165, 166]) = (B ++ [165, 166])) = true := decide_eq_true rfl
    rw [hd]
    clear hd V35 V5
    go_wp2_with fail
    go_loopw [13] (fun i wr => EERel ρ3 w.heap.size (.slice a2 (B.length + 2) c2) (B.length + 2) w6 i wr) (fun i _ => B.length + 2 - (intOf i).toNat)
    case atStart => exact ⟨0, _, Nat.zero_le _, rfl, O5.out, FrO.refl _ _ _, Below.refl _ _⟩
    case round =>
      obtain ⟨k, xs, hk, rfl, hown, hfr, hbe⟩ := hrel
      have HO := hid hown
      have HF := hid hfr
      have HBe := hid hbe
      clear hown hfr hbe
      by_cases hlt : k < B.length + 2
      · obtain ⟨_, _, e2, hc2', _, hsh⟩ := own_shape HO.out
        simp only [Value.slice.injEq, true_and] at e2
        obtain ⟨rfl, rfl⟩ := e2
        rcases hsh with ⟨_, h0, _⟩ | ⟨g, rfl⟩
        · omega
        have hxl : xs.length = B.length + 2 := by have := HO.out.1; rw [bts_length] at this; omega
        have k0 := (World.ownsRow.cellAt HO.out k (by omega)).trans (bts_some (show k < xs.length by omega))
        have z0 := World.ownsRow.frozenAt HO.out k
        go_wp2
        go_roundw
        case rel =>
          refine ⟨k + 1, xs.set k 238, by omega, by go_num, ?_, HF.out.trans' (FrO.setCell (L3.out g rfl) _), HBe.out.setCell (HO.out.lt g rfl).1 _⟩
          rw [show bts (xs.set k 238) = (bts xs).set k (.int .u8 238) by simp [bts, List.map_set]]
          exact (World.ownsRow.stored HO.out k (.int .u8 238)).1
        case measure => (simp [intOf]) <;> omega
      · have hkl : k = B.length + 2 := by omega
        subst hkl
        have W7 := hid (W5.out.moves (ρ' := ρ3) (fun k hk hki => HF.out.block k hk (by rw [hki]; exact hi9)) fun _ _ => rfl)
        have M7 := hid (M5.out.moves (ρ' := ρ3) (fun k hk hki => HF.out.block k hk (by rw [hki]; exact hj9)) fun _ _ => rfl)
        have F7 := hid (F5.out.bel HBe.out)
        have HM7 := M7.out
        obtain ⟨_, _, _, _, _, ov, m6, m7, _⟩ := HM7
        obtain ⟨am, cm, rfl, _, _, _⟩ := own_shape m7
        obtain ⟨r0, r1, r2, s0, s1, s2⟩ := cells3 m6
        clear m6 m7
        go_wp2_with fail
        go_quiet (first
          | (go_at_call 19; refine Calls.quiet_of_same (wLen_any ρ3 i wb l3 lim e3 _ (W7.out.same (Same.drewN _ _))))
          | (go_at_call 30; refine Calls.quiet_of_same (wErr_any ρ3 i wb l3 lim e3 _ (W7.out.same (Same.drewN _ _)))))
        go_wp2
        go_ret
        refine ⟨rfl, ρ3, l3, e3, H3.out, W7.out.same (Same.drewN _ _), M7.out.same (Same.drewN _ _), F7.out.trans (FrL.of_same (Same.drewN wr nq)) (fun _ _ => rfl)⟩

end Go.Proofs.Ytniiigidedcpaaa
