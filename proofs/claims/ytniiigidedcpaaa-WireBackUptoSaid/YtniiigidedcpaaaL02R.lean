/-
  reads: one call on a reader and on the document's: both tell the same.
-/
import Derived.Test.YtniiigidedcpaaaMoves
import Derived.Deep.CutBlock
import Derived.Deep.DeepCutAuto
namespace Go.Proofs.Ytniiigidedcpaaa
open Go.RowKit

/-- what one call leaves: both have the same to read, and the same error; nothing else has turned -/
def ReadsPost (ρ : Nat → Nat) (i j rb nb : Nat) (w : World) (en : Ending) (w' : World) : Prop :=
  en = .returned (.bool true) ∧ ∃ ρ' l e, (∀ k, k < w.heap.size → ρ' k = ρ k) ∧ IsR ρ' i w' rb l e ∧ IsN ρ' j w' nb l e ∧ FrL ρ [i, j] w w'
/-- what holds behind the switch -/
def RMid (ρ : Nat → Nat) (i j rb nb : Nat) (w w' : World) : Prop :=
  ∃ ρ' l e, (∀ k, k < w.heap.size → ρ' k = ρ k) ∧ IsR ρ' i w' rb l e ∧ IsN ρ' j w' nb l e ∧ FrL ρ [i, j] w w'
theorem rmid_mk {ρ ρ2 : Nat → Nat} {i j rb nb : Nat} {e' : Int} {l' : List Int} {bx : Array Value} {w w2 w3 w4 : World} (hij : i ≠ j) (hi9 : i ≠ 9) (hj9 : j ≠ 9)
    (h2 : ρ2 = ext ρ w.heap.size 9) (hx : w2.heap[w.heap.size]? = some (.cells bx 49 (0, 0))) (hR : IsR ρ2 i w3 rb l' e') (hF3 : FrO ρ2 i w2 w3) (hN : IsN ρ2 j w4 nb l' e') (hF4 : FrO ρ2 j w3 w4) (hb : Below w.heap.size w w2) :
    RMid ρ i j rb nb w w4 := by
  have h2' : ∀ k, k < w.heap.size → ρ2 k = ρ k := fun k hk => by rw [h2]; exact ext_old hk
  have f2 : FrL ρ [i, j] w w2 := FrL.of_below hb
  have f3 : FrL ρ [i, j] w w3 := f2.trans (FrL.of hF3 (by simp)) h2'
  exact ⟨ρ2, l', e', h2', hR.moves (fun k hk hki => hF4.block k hk (by rw [hki]; exact hij)) (fun _ _ => rfl), hN, f3.trans (FrL.of hF4 (by simp)) h2'⟩
theorem dec_self {a : Int} : (a == a) = true := by simp

set_option maxHeartbeats 6400000 in
set_option maxRecDepth 20000 in
theorem reads_any (ρ : Nat → Nat) (i j rb nb : Nat) (l : List Int) (e kd wh n v : Int) (bv : Value) (w : World) (h : IsR ρ i w rb l e) (hm : IsN ρ j w nb l e) (hij : i ≠ j) (hi9 : i ≠ 9) (hj9 : j ≠ 9) :
    Calls Try.prog 24 #[.pointer (some ⟨rb, 0, none⟩), .pointer (some ⟨nb, 0, none⟩), .agg #[.int .i64 kd, .int .i64 wh, .int .i64 n, .int .u32 v, bv]] w (ReadsPost ρ i j rb nb w) := by
  obtain ⟨bx, hbx⟩ : ∃ bx, bx = #[.int .i64 kd, .int .i64 wh, .int .i64 n, .int .u32 v, bv] := ⟨_, rfl⟩
  obtain ⟨w2, hw2⟩ : ∃ w2, w2 = w.alloc (.cells #[.int .i64 kd, .int .i64 wh, .int .i64 n, .int .u32 v, bv] 49) := ⟨_, rfl⟩
  obtain ⟨ρ2, h2⟩ : ∃ ρ2, ρ2 = ext ρ w.heap.size 9 := ⟨_, rfl⟩
  have hbel : Below w.heap.size w w2 := by rw [hw2]; exact bel_alloc w _
  have X2 := hid (show w2.heap[w.heap.size]? = some (.cells bx 49 (0, 0)) by rw [hw2, hbx]; exact heap_alloc_new w _)
  obtain ⟨q0, q1, q2, q3, q4, z0, z1, z2, z3, z4⟩ := cells5 (by rw [← hbx]; exact X2.out)
  have R2 := hid (h.moves (fun k hk _ => hbel.block k hk) (ρ' := ρ2) (fun k hk => by rw [h2]; exact ext_old hk))
  have N2 := hid (hm.moves (fun k hk _ => hbel.block k hk) (ρ' := ρ2) (fun k hk => by rw [h2]; exact ext_old hk))
  have HR := hid h
  have HB2 := hid hbel
  have H2 := hid h2
  have HW2 := hid hw2.symm
  have HX := hid hbx
  clear h hm hbel h2 hbx hw2
  go_enter Try.func24, Try.ntmps24
  go_upto_region 1 with fail
  rw [HW2.out]
  go_upto_block 0 with fail
  go_cut [7] from 10 (fun c wc => c = .bool true ∧ RMid ρ i j rb nb w wc)
  case first =>
    by_cases k1 : kd = 1
    · subst k1
      have hbv := bev_takeL (l := l) (e := e) (n := 1) HR.out.byt
      go_wp2_with fail
      refine (rU8_any ρ2 i rb l e _ R2.out).mono ?_
      rintro en w3 ⟨rfl, hR3, hF3, _⟩
      have N3 := hid (N2.out.moves (ρ' := ρ2) (fun k hk hki => hF3.block k hk (by rw [hki]; exact fun e => hij e.symm)) (fun _ _ => rfl))
      have HR3 := hid hR3
      have HF3 := hid hF3
      clear hR3 hF3
      go_wp2_with fail
      refine (nNumber_any ρ2 j nb l e 1 _ N3.out (by decide)).mono ?_
      rintro en w4 ⟨rfl, hN4, hF4⟩
      have MID := hid (rmid_mk (bx := bx) hij hi9 hj9 H2.out X2.out HR3.out HF3.out hN4 hF4 HB2.out)
      clear hN4 hF4
      go_wp2_with fail
      go_meet
      exact ⟨rfl, MID.out⟩
    by_cases k2 : kd = 2
    · subst k2
      have hbv := bev_takeL (l := l) (e := e) (n := 2) HR.out.byt
      go_wp2_with fail
      refine (rU16_any ρ2 i rb l e _ R2.out).mono ?_
      rintro en w3 ⟨rfl, hR3, hF3, _⟩
      have N3 := hid (N2.out.moves (ρ' := ρ2) (fun k hk hki => hF3.block k hk (by rw [hki]; exact fun e => hij e.symm)) (fun _ _ => rfl))
      have HR3 := hid hR3
      have HF3 := hid hF3
      clear hR3 hF3
      go_wp2_with fail
      refine (nNumber_any ρ2 j nb l e 2 _ N3.out (by decide)).mono ?_
      rintro en w4 ⟨rfl, hN4, hF4⟩
      have MID := hid (rmid_mk (bx := bx) hij hi9 hj9 H2.out X2.out HR3.out HF3.out hN4 hF4 HB2.out)
      clear hN4 hF4
      go_wp2_with fail
      go_meet
      exact ⟨rfl, MID.out⟩
    by_cases k3 : kd = 3
    · subst k3
      have hbv := bev_takeL (l := l) (e := e) (n := 4) HR.out.byt
      go_wp2_with fail
      refine (rU32_any ρ2 i rb l e _ R2.out).mono ?_
      rintro en w3 ⟨rfl, hR3, hF3, _⟩
      have N3 := hid (N2.out.moves (ρ' := ρ2) (fun k hk hki => hF3.block k hk (by rw [hki]; exact fun e => hij e.symm)) (fun _ _ => rfl))
      have HR3 := hid hR3
      have HF3 := hid hF3
      clear hR3 hF3
      go_wp2_with fail
      refine (nNumber_any ρ2 j nb l e 4 _ N3.out (by decide)).mono ?_
      rintro en w4 ⟨rfl, hN4, hF4⟩
      have MID := hid (rmid_mk (bx := bx) hij hi9 hj9 H2.out X2.out HR3.out HF3.out hN4 hF4 HB2.out)
      clear hN4 hF4
      go_wp2_with fail
      go_meet
      exact ⟨rfl, MID.out⟩
    by_cases k4 : kd = 4
    · subst k4
      go_wp2_with fail
      refine wp_region_canon ((0, false) :: (1, false) :: (2, false) :: (4, false) :: (5, false) :: (6, false) :: (3, true) :: (7, true) :: (8, true) :: (9, false) :: []) (fun w' => w'.cell? ⟨w.heap.size, 2, none⟩ = some (.int .i64 n)) (by kernel_rfl) (by kernel_rfl) (fun c a d v w h => by cases d <;> exact h) ?_ ?_
      · exact q2
      simp only [pick, List.getElem?_cons_succ, List.getElem?_cons_zero]
      (repeat (first | (refine wpD_weak (by rfl) ?_; apply Exists.intro; refine ⟨fun wS hS => ?_, ?_⟩; (focus (go_simp; (try with_reducible rfl); done)); simp only [Act.put, List.setIfInBounds_toArray, List.set_cons_zero, List.set_cons_succ]) | (refine wpD_pass (by rfl) ?_; simp only [Act.put, List.setIfInBounds_toArray, List.set_cons_zero, List.set_cons_succ])))
      (refine wpD_strong (by rfl) (fun K hK => ?_); go_simp)
      refine (rBytes_any ρ2 i rb l e n _ (R2.out.same (Same.drew _))).mono ?_
      rintro en w3 ⟨v3, rfl, ho3, hR3, hF3⟩
      have hF3' : FrO ρ2 i w2 w3 := ((Same.drew w2).fr ρ2 i).trans' hF3
      have X3 := hid ((hF3'.block _ (lt_of_block X2.out) (by rw [H2.out, ext_new (Nat.le_refl _)]; exact fun e => hi9 e.symm)).trans X2.out)
      have hTb : Byt (askL l e n) := by unfold askL takeL; split; exact Byt.nil; split; exact Byt.nil; exact HR.out.byt.take _
      have V3 := hid (Rb.of_own hTb ho3)
      have N3 := hid (N2.out.moves (ρ' := ρ2) (fun k hk hki => hF3'.block k hk (by rw [hki]; exact fun e => hij e.symm)) (fun _ _ => rfl))
      have HR3 := hid hR3
      have HF3 := hid hF3'
      have L3 := hid (show ∀ b, v3.ownBlock = some b → w2.heap.size ≤ b from fun b hb => (ho3.lt b hb).1)
      obtain ⟨_, _, s2, _⟩ := cells5 (by rw [← HX.out]; exact X3.out)
      clear hR3 hF3 ho3 hF3'
      (refine hK _ _ (by exact s2) ?_; clear hK K; (try simp only [Act.put, List.setIfInBounds_toArray, List.set_cons_zero, List.set_cons_succ]))
      (repeat (first | (refine wpD_weak (by rfl) ?_; apply Exists.intro; refine ⟨fun wS hS => ?_, ?_⟩; (focus (go_simp; (try with_reducible rfl); done)); simp only [Act.put, List.setIfInBounds_toArray, List.set_cons_zero, List.set_cons_succ]) | (refine wpD_pass (by rfl) ?_; simp only [Act.put, List.setIfInBounds_toArray, List.set_cons_zero, List.set_cons_succ])))
      (refine wpD_strong (by rfl) (fun K hK => ?_); go_simp)
      refine (nBytes_any ρ2 j nb l e n _ N3.out).mono ?_
      rintro en w4 ⟨v4, rfl, ho4, hN4, hF4⟩
      have X4 := hid ((hF4.block _ (lt_of_block X3.out) (by rw [H2.out, ext_new (Nat.le_refl _)]; exact fun e => hj9 e.symm)).trans X3.out)
      have V4 := hid (Rb.of_own hTb ho4)
      have MID := hid (rmid_mk (bx := bx) hij hi9 hj9 H2.out X2.out HR3.out HF3.out hN4 hF4 HB2.out)
      obtain ⟨_, _, s2, _⟩ := cells5 (by rw [← HX.out]; exact X4.out)
      have V34 := hid (V3.out.fr hF4 (fun _ b hb => show ρ2 b = 9 by rw [H2.out]; exact ext_new (Nat.le_trans HB2.out.size (L3.out b hb))) (fun e => hj9 e.symm))
      clear hN4 hF4 ho4
      (refine hK _ _ (by exact s2) ?_; clear hK K; (try simp only [Act.put, List.setIfInBounds_toArray, List.set_cons_zero, List.set_cons_succ]))
      (repeat (first | (refine wpD_weak (by rfl) ?_; apply Exists.intro; refine ⟨fun wS hS => ?_, ?_⟩; (focus (go_simp; (try with_reducible rfl); done)); simp only [Act.put, List.setIfInBounds_toArray, List.set_cons_zero, List.set_cons_succ]) | (refine wpD_pass (by rfl) ?_; simp only [Act.put, List.setIfInBounds_toArray, List.set_cons_zero, List.set_cons_succ])))
      (refine wpD_strong (by rfl) (fun K hK => ?_); go_simp)
      refine (same_any _ _ _ _ _ V34.out V4.out).mono ?_
      rintro en w5 ⟨rfl, rfl⟩
      rw [show decide (askL l e n = askL l e n) = true from decide_eq_true rfl]
      (refine hK _ _ (by exact s2) ?_; clear hK K; (try simp only [Act.put, List.setIfInBounds_toArray, List.set_cons_zero, List.set_cons_succ]))
      (repeat (first | (refine wpD_weak (by rfl) ?_; apply Exists.intro; refine ⟨fun wS hS => ?_, ?_⟩; (focus (go_simp; (try with_reducible rfl); done)); simp only [Act.put, List.setIfInBounds_toArray, List.set_cons_zero, List.set_cons_succ]) | (refine wpD_pass (by rfl) ?_; simp only [Act.put, List.setIfInBounds_toArray, List.set_cons_zero, List.set_cons_succ])))
      refine wpD_nil ?_
      go_wp2_with fail
      go_meet
      exact ⟨rfl, MID.out⟩
    by_cases k5 : kd = 5
    · subst k5
      go_wp2_with fail
      refine (rEnd_any ρ2 i rb l e _ R2.out).mono ?_
      rintro en w3 ⟨rfl, rfl⟩
      go_wp2_with fail
      refine (nEnd_any ρ2 j nb l e _ N2.out).mono ?_
      rintro en w4 ⟨rfl, hS⟩
      have MID := hid (rmid_mk (bx := bx) hij hi9 hj9 H2.out X2.out R2.out (FrO.refl _ _ _) (N2.out.moves (ρ' := ρ2) (fun k hk _ => by rw [hS.heap]) (fun _ _ => rfl)) (hS.fr _ _) HB2.out)
      clear hS
      go_wp2_with fail
      go_meet
      exact ⟨rfl, MID.out⟩
    · have MID := hid (rmid_mk (bx := bx) hij hi9 hj9 H2.out X2.out R2.out (FrO.refl _ _ _) N2.out (FrO.refl _ _ _) HB2.out)
      go_wp2_with fail
      go_meet
      exact ⟨rfl, MID.out⟩
  case rest =>
    obtain ⟨rfl, hmid⟩ := hcut
    obtain ⟨ρ3, l3, e3, h3, R3, N3, F3⟩ := hmid
    have R3 := hid R3
    have HN3 := N3
    obtain ⟨_, sv, full, rd, _, _, _, hnb, _, _⟩ := HN3
    have NB := hid hnb
    have N3 := hid N3
    have F3 := hid F3
    have H3 := hid h3
    clear h3 hnb R2 N2 HR X2 q0 q1 q2 q3 q4 z0 z1 z2 z3 z4
    go_wp2_with fail
    refine wp_region_canon ((0, false) :: (1, false) :: (2, false) :: (4, false) :: (3, true) :: (5, true) :: (6, false) :: (7, false) :: (8, false) :: (9, false) :: (11, false) :: (12, false) :: (13, false) :: (14, false) :: (10, true) :: (15, false) :: (16, false) :: (17, false) :: []) (fun w' => w'.cell? ⟨nb, 2, none⟩ = some (.int .i64 e3) ∧ w'.frozen? ⟨nb, 2, none⟩ = false) (by kernel_rfl) (by kernel_rfl) (fun c a d v w h => by cases d <;> exact h) ?_ ?_
    · exact ⟨(cells3 NB.out).2.2.1, (cells3 NB.out).2.2.2.2.2⟩
    simp only [pick, List.getElem?_cons_succ, List.getElem?_cons_zero]
    (repeat (first | (refine wpD_weak (by rfl) ?_; apply Exists.intro; refine ⟨fun wS hS => ?_, ?_⟩; (focus (obtain ⟨f0, f1⟩ := hS; go_simp; (try with_reducible rfl); done)); simp only [Act.put, List.setIfInBounds_toArray, List.set_cons_zero, List.set_cons_succ]) | (refine wpD_pass (by rfl) ?_; simp only [Act.put, List.setIfInBounds_toArray, List.set_cons_zero, List.set_cons_succ])))
    (refine wpD_strong (by rfl) (fun K hK => ?_); go_simp)
    refine (rLeft_any ρ3 i rb l3 e3 _ (R3.out.same (Same.drew _))).mono ?_
    rintro en w4 ⟨rfl, rfl⟩
    (refine hK _ _ (by exact ⟨(cells3 NB.out).2.2.1, (cells3 NB.out).2.2.2.2.2⟩) ?_; clear hK K; (try simp only [Act.put, List.setIfInBounds_toArray, List.set_cons_zero, List.set_cons_succ]))
    (repeat (first | (refine wpD_weak (by rfl) ?_; apply Exists.intro; refine ⟨fun wS hS => ?_, ?_⟩; (focus (obtain ⟨f0, f1⟩ := hS; go_simp; (try with_reducible rfl); done)); simp only [Act.put, List.setIfInBounds_toArray, List.set_cons_zero, List.set_cons_succ]) | (refine wpD_pass (by rfl) ?_; simp only [Act.put, List.setIfInBounds_toArray, List.set_cons_zero, List.set_cons_succ])))
    (refine wpD_strong (by rfl) (fun K hK => ?_); go_simp)
    refine (nLeft_any ρ3 j nb l3 e3 _ (N3.out.moves (w' := wc.drew) (fun k _ _ => rfl) (fun _ _ => rfl))).mono ?_
    rintro en w4 ⟨rfl, hS⟩
    have HS := hid ((Same.drew wc).trans hS)
    have NB4 := hid (show w4.heap[nb]? = _ from (by rw [HS.out.heap] : w4.heap[nb]? = wc.heap[nb]?).trans NB.out)
    clear hS
    (refine hK _ _ (by exact ⟨(cells3 NB4.out).2.2.1, (cells3 NB4.out).2.2.2.2.2⟩) ?_; clear hK K; (try simp only [Act.put, List.setIfInBounds_toArray, List.set_cons_zero, List.set_cons_succ]))
    (repeat (first | (refine wpD_weak (by rfl) ?_; apply Exists.intro; refine ⟨fun wS hS => ?_, ?_⟩; (focus (obtain ⟨f0, f1⟩ := hS; go_simp; (try with_reducible rfl); done)); simp only [Act.put, List.setIfInBounds_toArray, List.set_cons_zero, List.set_cons_succ]) | (refine wpD_pass (by rfl) ?_; simp only [Act.put, List.setIfInBounds_toArray, List.set_cons_zero, List.set_cons_succ])))
    (refine wpD_strong (by rfl) (fun K hK => ?_); go_simp)
    refine (rErr_any ρ3 i rb l3 e3 _ (R3.out.same HS.out)).mono ?_
    rintro en w5 ⟨rfl, rfl⟩
    (refine hK _ _ (by exact ⟨(cells3 NB4.out).2.2.1, (cells3 NB4.out).2.2.2.2.2⟩) ?_; clear hK K; (try simp only [Act.put, List.setIfInBounds_toArray, List.set_cons_zero, List.set_cons_succ]))
    (repeat (first | (refine wpD_weak (by rfl) ?_; apply Exists.intro; refine ⟨fun wS hS => ?_, ?_⟩; (focus (obtain ⟨f0, f1⟩ := hS; go_simp; (try with_reducible rfl); done)); simp only [Act.put, List.setIfInBounds_toArray, List.set_cons_zero, List.set_cons_succ]) | (refine wpD_pass (by rfl) ?_; simp only [Act.put, List.setIfInBounds_toArray, List.set_cons_zero, List.set_cons_succ])))
    refine wpD_nil ?_
    go_wp2_with fail
    go_ret
    exact ⟨rfl, ρ3, l3, e3, H3.out, R3.out.same HS.out, N3.out.moves (fun k _ _ => by rw [HS.out.heap]) (fun _ _ => rfl), F3.out.trans (FrL.of_same HS.out) (fun _ _ => rfl)⟩

end Go.Proofs.Ytniiigidedcpaaa
