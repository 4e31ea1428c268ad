/-
  got: one number or run is read, and held against what was written.
-/
import Derived.Test.YtniiigidedcpaaaL02P
import Derived.Test.YtniiigidedcpaaaL02R
namespace Go.Proofs.Ytniiigidedcpaaa
open Go.RowKit

/-- does what was read hold what was written? -/
def gotB (kd v : Int) (B t : List Int) : Bool :=
  if kd = 1 then bev t == v % 256 else if kd = 2 then bev t == v % 65536 else if kd = 3 then bev t == v else if kd = 4 then decide (t = B) else true
def GotPost (ρ : Nat → Nat) (i rb : Nat) (l : List Int) (e kd v : Int) (B : List Int) (w : World) (en : Ending) (w' : World) : Prop :=
  en = .returned (.bool (gotB kd v B (takeL l e (putM kd v B).length))) ∧
    ∃ ρ', (∀ k, k < w.heap.size → ρ' k = ρ k) ∧ IsR ρ' i w' rb (restL l e (putM kd v B).length) (takeE l e (putM kd v B).length) ∧ FrL ρ [i] w w'

set_option maxHeartbeats 3200000 in
set_option maxRecDepth 20000 in
theorem got_any (ρ : Nat → Nat) (i rb : Nat) (l : List Int) (e kd wh n v : Int) (bv : Value) (B : List Int) (w : World) (h : IsR ρ i w rb l e) (hi9 : i ≠ 9)
    (hb : Rb w bv B) (hlen : B.length + 2 ≤ 140737488355328) (hbi : B ≠ [] → ∀ b, bv.ownBlock = some b → ρ b ≠ i) (hv0 : 0 ≤ v) (hv1 : v ≤ 4294967295) :
    Calls Try.prog 33 #[.pointer (some ⟨rb, 0, none⟩), .agg #[.int .i64 kd, .int .i64 wh, .int .i64 n, .int .u32 v, bv]] w (GotPost ρ i rb l e kd v B w) := by
  obtain ⟨a, cap, rfl, hcp, hmx, _⟩ := hb.open
  obtain ⟨bx, hbx⟩ : ∃ bx : Array Value, bx = #[.int .i64 kd, .int .i64 wh, .int .i64 n, .int .u32 v, .slice a B.length cap] := ⟨_, rfl⟩
  obtain ⟨w2, hw2⟩ : ∃ w2, w2 = w.alloc (.cells #[.int .i64 kd, .int .i64 wh, .int .i64 n, .int .u32 v, .slice a B.length cap] 49) := ⟨_, rfl⟩
  obtain ⟨ρ2, h2⟩ : ∃ ρ2, ρ2 = ext ρ w.heap.size 9 := ⟨_, rfl⟩
  have hbel : Below w.heap.size w w2 := by rw [hw2]; exact bel_alloc w _
  have X2 := hid (show w2.heap[w.heap.size]? = some (.cells bx 49 (0, 0)) by rw [hw2, hbx]; exact heap_alloc_new w _)
  obtain ⟨q0, q1, q2, q3, q4, z0, z1, z2, z3, z4⟩ := cells5 (by rw [← hbx]; exact X2.out)
  have hρ : ∀ k, k < w.heap.size → ρ2 k = ρ k := fun k hk => by rw [h2]; exact ext_old hk
  have R2 := hid (h.moves (fun k hk _ => hbel.block k hk) hρ)
  have HR := hid h
  have HBI := hid hbi
  have HB := hid hb
  have HB2 := hid hbel
  have B2 := hid (hb.below hbel)
  have H2 := hid h2
  have HRO := hid hρ
  have HW2 := hid hw2.symm
  have HX := hid hbx
  have fin : ∀ (m : Nat) (w' : World), IsR ρ2 i w' rb (restL l e m) (takeE l e m) → FrO ρ2 i w2 w' →
      ∃ ρ', (∀ k, k < w.heap.size → ρ' k = ρ k) ∧ IsR ρ' i w' rb (restL l e m) (takeE l e m) ∧ FrL ρ [i] w w' := fun m w' hR hF =>
    ⟨_, hρ, hR, (FrL.of_below (ρ := ρ) hbel).trans (FrL.of hF (by simp)) hρ⟩
  have FIN := hid fin
  clear h hbel h2 hbx hw2 hρ fin hb hbi
  go_enter Try.func33, Try.ntmps33
  go_upto_region 1 with fail
  rw [HW2.out]
  by_cases k1 : kd = 1
  · subst k1
    have hbv := bev_takeL (l := l) (e := e) (n := 1) HR.out.byt
    go_wp2_with fail
    refine wp_region_canon ((0, false) :: (2, false) :: (3, false) :: (4, false) :: (1, true) :: (5, false) :: (6, false) :: []) (fun w' => w'.cell? ⟨w.heap.size, 3, none⟩ = some (.int .u32 v)) (by kernel_rfl) (by kernel_rfl) (fun c a d v w h => by cases d <;> exact h) ?_ ?_
    · exact q3
    simp only [pick, List.getElem?_cons_succ, List.getElem?_cons_zero]
    (repeat (first | (refine wpD_weak (by rfl) ?_; apply Exists.intro; refine ⟨fun wS hS => ?_, ?_⟩; (focus (go_simp; (try with_reducible rfl); done)); simp only [Act.put, List.setIfInBounds_toArray, List.set_cons_zero, List.set_cons_succ]) | (refine wpD_pass (by rfl) ?_; simp only [Act.put, List.setIfInBounds_toArray, List.set_cons_zero, List.set_cons_succ])))
    (refine wpD_strong (by rfl) (fun K hK => ?_); go_simp)
    refine (rU8_any ρ2 i rb l e _ (R2.out.same (Same.drew _))).mono ?_
    rintro en w3 ⟨rfl, hR3, hF3, _⟩
    have hF3' : FrO ρ2 i w2 w3 := ((Same.drew w2).fr ρ2 i).trans' hF3
    have X3 := hid ((hF3'.block _ (lt_of_block X2.out) (by rw [H2.out, ext_new (Nat.le_refl _)]; exact fun e => hi9 e.symm)).trans X2.out)
    have FIN := hid (FIN.out 1 _ hR3 hF3')
    obtain ⟨_, _, _, s3, _⟩ := cells5 (by rw [← HX.out]; exact X3.out)
    clear hR3 hF3 hF3'
    (refine hK _ _ (by exact s3) ?_; clear hK K; (try simp only [Act.put, List.setIfInBounds_toArray, List.set_cons_zero, List.set_cons_succ]))
    (repeat (first | (refine wpD_weak (by rfl) ?_; apply Exists.intro; refine ⟨fun wS hS => ?_, ?_⟩; (focus (go_simp; (try with_reducible rfl); done)); simp only [Act.put, List.setIfInBounds_toArray, List.set_cons_zero, List.set_cons_succ]) | (refine wpD_pass (by rfl) ?_; simp only [Act.put, List.setIfInBounds_toArray, List.set_cons_zero, List.set_cons_succ])))
    refine wpD_nil ?_
    go_wp2_with fail
    go_ret
    exact ⟨rfl, FIN.out⟩
  by_cases k2 : kd = 2
  · subst k2
    have hbv := bev_takeL (l := l) (e := e) (n := 2) HR.out.byt
    go_wp2_with fail
    refine wp_region_canon ((0, false) :: (2, false) :: (3, false) :: (4, false) :: (1, true) :: (5, false) :: (6, false) :: []) (fun w' => w'.cell? ⟨w.heap.size, 3, none⟩ = some (.int .u32 v)) (by kernel_rfl) (by kernel_rfl) (fun c a d v w h => by cases d <;> exact h) ?_ ?_
    · exact q3
    simp only [pick, List.getElem?_cons_succ, List.getElem?_cons_zero]
    (repeat (first | (refine wpD_weak (by rfl) ?_; apply Exists.intro; refine ⟨fun wS hS => ?_, ?_⟩; (focus (go_simp; (try with_reducible rfl); done)); simp only [Act.put, List.setIfInBounds_toArray, List.set_cons_zero, List.set_cons_succ]) | (refine wpD_pass (by rfl) ?_; simp only [Act.put, List.setIfInBounds_toArray, List.set_cons_zero, List.set_cons_succ])))
    (refine wpD_strong (by rfl) (fun K hK => ?_); go_simp)
    refine (rU16_any ρ2 i rb l e _ (R2.out.same (Same.drew _))).mono ?_
    rintro en w3 ⟨rfl, hR3, hF3, _⟩
    have hF3' : FrO ρ2 i w2 w3 := ((Same.drew w2).fr ρ2 i).trans' hF3
    have X3 := hid ((hF3'.block _ (lt_of_block X2.out) (by rw [H2.out, ext_new (Nat.le_refl _)]; exact fun e => hi9 e.symm)).trans X2.out)
    have FIN := hid (FIN.out 2 _ hR3 hF3')
    obtain ⟨_, _, _, s3, _⟩ := cells5 (by rw [← HX.out]; exact X3.out)
    clear hR3 hF3 hF3'
    (refine hK _ _ (by exact s3) ?_; clear hK K; (try simp only [Act.put, List.setIfInBounds_toArray, List.set_cons_zero, List.set_cons_succ]))
    (repeat (first | (refine wpD_weak (by rfl) ?_; apply Exists.intro; refine ⟨fun wS hS => ?_, ?_⟩; (focus (go_simp; (try with_reducible rfl); done)); simp only [Act.put, List.setIfInBounds_toArray, List.set_cons_zero, List.set_cons_succ]) | (refine wpD_pass (by rfl) ?_; simp only [Act.put, List.setIfInBounds_toArray, List.set_cons_zero, List.set_cons_succ])))
    refine wpD_nil ?_
    go_wp2_with fail
    go_ret
    exact ⟨rfl, FIN.out⟩
  by_cases k3 : kd = 3
  · subst k3
    have hbv := bev_takeL (l := l) (e := e) (n := 4) HR.out.byt
    go_wp2_with fail
    refine wp_region_canon ((0, false) :: (2, false) :: (3, false) :: (1, true) :: (4, false) :: (5, false) :: []) (fun w' => w'.cell? ⟨w.heap.size, 3, none⟩ = some (.int .u32 v)) (by kernel_rfl) (by kernel_rfl) (fun c a d v w h => by cases d <;> exact h) ?_ ?_
    · exact q3
    simp only [pick, List.getElem?_cons_succ, List.getElem?_cons_zero]
    (repeat (first | (refine wpD_weak (by rfl) ?_; apply Exists.intro; refine ⟨fun wS hS => ?_, ?_⟩; (focus (go_simp; (try with_reducible rfl); done)); simp only [Act.put, List.setIfInBounds_toArray, List.set_cons_zero, List.set_cons_succ]) | (refine wpD_pass (by rfl) ?_; simp only [Act.put, List.setIfInBounds_toArray, List.set_cons_zero, List.set_cons_succ])))
    (refine wpD_strong (by rfl) (fun K hK => ?_); go_simp)
    refine (rU32_any ρ2 i rb l e _ (R2.out.same (Same.drew _))).mono ?_
    rintro en w3 ⟨rfl, hR3, hF3, _⟩
    have hF3' : FrO ρ2 i w2 w3 := ((Same.drew w2).fr ρ2 i).trans' hF3
    have X3 := hid ((hF3'.block _ (lt_of_block X2.out) (by rw [H2.out, ext_new (Nat.le_refl _)]; exact fun e => hi9 e.symm)).trans X2.out)
    have FIN := hid (FIN.out 4 _ hR3 hF3')
    obtain ⟨_, _, _, s3, _⟩ := cells5 (by rw [← HX.out]; exact X3.out)
    clear hR3 hF3 hF3'
    (refine hK _ _ (by exact s3) ?_; clear hK K; (try simp only [Act.put, List.setIfInBounds_toArray, List.set_cons_zero, List.set_cons_succ]))
    (repeat (first | (refine wpD_weak (by rfl) ?_; apply Exists.intro; refine ⟨fun wS hS => ?_, ?_⟩; (focus (go_simp; (try with_reducible rfl); done)); simp only [Act.put, List.setIfInBounds_toArray, List.set_cons_zero, List.set_cons_succ]) | (refine wpD_pass (by rfl) ?_; simp only [Act.put, List.setIfInBounds_toArray, List.set_cons_zero, List.set_cons_succ])))
    refine wpD_nil ?_
    go_wp2_with fail
    go_ret
    exact ⟨rfl, FIN.out⟩
  by_cases k4 : kd = 4
  · subst k4
    go_wp2_with fail
    refine wp_region_canon ((0, false) :: (1, false) :: (2, false) :: (3, false) :: (5, false) :: (6, false) :: (4, true) :: (7, true) :: (8, false) :: []) (fun w' => w'.cell? ⟨w.heap.size, 4, none⟩ = some (.slice a B.length cap)) (by kernel_rfl) (by kernel_rfl) (fun c a d v w h => by cases d <;> exact h) ?_ ?_
    · exact q4
    simp only [pick, List.getElem?_cons_succ, List.getElem?_cons_zero]
    (repeat (first | (refine wpD_weak (by rfl) ?_; apply Exists.intro; refine ⟨fun wS hS => ?_, ?_⟩; (focus (go_simp; (try with_reducible rfl); done)); simp only [Act.put, List.setIfInBounds_toArray, List.set_cons_zero, List.set_cons_succ]) | (refine wpD_pass (by rfl) ?_; simp only [Act.put, List.setIfInBounds_toArray, List.set_cons_zero, List.set_cons_succ])))
    (refine wpD_strong (by rfl) (fun K hK => ?_); go_simp)
    refine (rBytes_any ρ2 i rb l e B.length _ (R2.out.same (Same.drew _))).mono ?_
    rintro en w3 ⟨v3, rfl, ho3, hR3, hF3⟩
    rw [(ask_nat l e B.length).2.1] at ho3
    rw [(ask_nat l e B.length).1, (ask_nat l e B.length).2.2] at hR3
    have hF3' : FrO ρ2 i w2 w3 := ((Same.drew w2).fr ρ2 i).trans' hF3
    have X3 := hid ((hF3'.block _ (lt_of_block X2.out) (by rw [H2.out, ext_new (Nat.le_refl _)]; exact fun e => hi9 e.symm)).trans X2.out)
    have hTb : Byt (takeL l e B.length) := by unfold takeL; split; exact Byt.nil; exact HR.out.byt.take _
    have V3 := hid (Rb.of_own hTb ho3)
    have FIN := hid (FIN.out B.length _ hR3 hF3')
    have B3 := hid (B2.out.move fun hne b hb hlt => hF3'.block b hlt (by rw [HRO.out b (HB.out.lt hne hb)]; exact HBI.out hne b hb))
    obtain ⟨_, _, _, _, s4, _⟩ := cells5 (by rw [← HX.out]; exact X3.out)
    clear hR3 hF3 ho3 hF3'
    (refine hK _ _ (by exact s4) ?_; clear hK K; (try simp only [Act.put, List.setIfInBounds_toArray, List.set_cons_zero, List.set_cons_succ]))
    (repeat (first | (refine wpD_weak (by rfl) ?_; apply Exists.intro; refine ⟨fun wS hS => ?_, ?_⟩; (focus (go_simp; (try with_reducible rfl); done)); simp only [Act.put, List.setIfInBounds_toArray, List.set_cons_zero, List.set_cons_succ]) | (refine wpD_pass (by rfl) ?_; simp only [Act.put, List.setIfInBounds_toArray, List.set_cons_zero, List.set_cons_succ])))
    (refine wpD_strong (by rfl) (fun K hK => ?_); go_simp)
    refine (same_any _ _ _ _ _ V3.out B3.out).mono ?_
    rintro en w5 ⟨rfl, rfl⟩
    (refine hK _ _ (by exact s4) ?_; clear hK K; (try simp only [Act.put, List.setIfInBounds_toArray, List.set_cons_zero, List.set_cons_succ]))
    (repeat (first | (refine wpD_weak (by rfl) ?_; apply Exists.intro; refine ⟨fun wS hS => ?_, ?_⟩; (focus (go_simp; (try with_reducible rfl); done)); simp only [Act.put, List.setIfInBounds_toArray, List.set_cons_zero, List.set_cons_succ]) | (refine wpD_pass (by rfl) ?_; simp only [Act.put, List.setIfInBounds_toArray, List.set_cons_zero, List.set_cons_succ])))
    refine wpD_nil ?_
    go_wp2_with fail
    go_ret
    exact ⟨rfl, FIN.out⟩
  · have hm : putM kd v B = [] := by simp [putM, k1, k2, k3, k4]
    have hg : gotB kd v B (takeL l e 0) = true := by simp [gotB, k1, k2, k3, k4]
    have r0 : restL l e 0 = l := by unfold restL; split <;> simp
    have t0 : takeE l e 0 = e := by unfold takeE; split <;> simp_all
    have FIN := hid (FIN.out 0 w2 (by rw [r0, t0]; exact R2.out) (FrO.refl _ _ _))
    have HM := hid hm
    have HG := hid hg
    clear hm hg r0 t0
    go_wp2_with fail
    go_ret
    refine ⟨?_, ?_⟩
    · rw [HM.out]
      show _ = Ending.returned (.bool (gotB kd v B (takeL l e 0)))
      rw [HG.out]
      rfl
    · rw [HM.out]
      exact FIN.out

end Go.Proofs.Ytniiigidedcpaaa
