/-
  alive: the document's third example, whatever the world.
-/
import Derived.Test.YtniiigidedcpaaaL02A
namespace Go.Proofs.Ytniiigidedcpaaa
open Go.RowKit

theorem IsW.cast {ρ : Nat → Nat} {i : Nat} {w : World} {wb : Nat} {l l' : List Int} {lim e e' : Int} (h : IsW ρ i w wb l lim e) (hl : l = l') (he : e = e') : IsW ρ i w wb l' lim e' := by subst hl; subst he; exact h
theorem IsR.cast {ρ : Nat → Nat} {i : Nat} {w : World} {rb : Nat} {l l' : List Int} {e e' : Int} (h : IsR ρ i w rb l e) (hl : l = l') (he : e = e') : IsR ρ i w rb l' e' := by subst hl; subst he; exact h
def AlivePost (w : World) (en : Ending) (w' : World) : Prop := en = .returned (.bool true) ∧ Below w.heap.size w w'
theorem FrO.bel {ρ : Nat → Nat} {i B : Nat} {a w w' : World} (h : Below B a w) (hf : FrO ρ i w w') (hB : B ≤ w.heap.size) (hl : ∀ k, k < B → ρ k ≠ i) : Below B a w' := h.trans (hf.below hB hl)

set_option maxHeartbeats 3200000 in
set_option maxRecDepth 20000 in
theorem alive_any (w : World) : Calls Try.prog 9 #[] w (AlivePost w) := by
  have C0 := hid (Cx.refl w)
  go_enter Try.func9, Try.ntmps9
  go_wp2_with fail
  refine (newWriter_any (fun _ => 0) 1 6 _).mono ?_
  rintro en w1 ⟨rfl, hW, hb⟩
  obtain ⟨wb, hwb⟩ : ∃ b, b = w.heap.size := ⟨_, rfl⟩
  rw [← hwb] at hW ⊢
  obtain ⟨ρ1, C1, W1⟩ : ∃ ρ1, Hid (Cx w ρ1 w1) ∧ Hid (IsW ρ1 1 w1 wb [] 6 0) := ⟨_, hid (C0.out.grow hb 1), hid (by rw [← hwb]; exact hW)⟩
  clear hW hb hwb
  go_wp2_with fail
  refine (newReader_any ρ1 2 _ [1, 2, 3, 4, 5] _ (Rb.new (by intro x hx; simp at hx; omega) (heap_alloc_new w1 _) rfl rfl (by decide)) (by decide)).mono ?_
  rintro en w2 ⟨rb, rfl, _, hR, hb⟩
  obtain ⟨ρ2, C2, W2, R2⟩ : ∃ ρ2, Hid (Cx w ρ2 w2) ∧ Hid (IsW ρ2 1 w2 wb [] 6 0) ∧ Hid (IsR ρ2 2 w2 rb [1, 2, 3, 4, 5] 0) :=
    ⟨_, hid ((C1.out.more (bel_alloc w1 _)).grow hb 2), hid ((W1.out.below (bel_alloc w1 _)).other (j := 9) (FrO.of_below hb) (by decide)), hid hR⟩
  clear hR hb
  go_wp2_with fail
  refine (wU16_any ρ2 1 wb [] 6 0 258 _ W2.out (by decide) (by decide)).mono ?_
  rintro en w3 ⟨rfl, hW, hF⟩
  obtain ⟨ρ3, C3, W3, R3⟩ : ∃ ρ3, Hid (Cx w ρ3 w3) ∧ Hid (IsW ρ3 1 w3 wb [1, 2] 6 0) ∧ Hid (IsR ρ3 2 w3 rb [1, 2, 3, 4, 5] 0) :=
    ⟨_, hid (C2.out.step hF (by decide) 1), hid (hW.cast (by decide) (by decide)), hid (R2.out.other hF (by decide))⟩
  clear hW hF
  go_wp2_with fail
  refine (wU32_any ρ3 1 wb _ 6 0 7 _ W3.out).mono ?_
  rintro en w4 ⟨rfl, hW, hF⟩
  obtain ⟨ρ4, C4, W4, R4⟩ : ∃ ρ4, Hid (Cx w ρ4 w4) ∧ Hid (IsW ρ4 1 w4 wb [1, 2, 0, 0, 0, 7] 6 0) ∧ Hid (IsR ρ4 2 w4 rb [1, 2, 3, 4, 5] 0) :=
    ⟨_, hid (C3.out.step hF (by decide) 1), hid (hW.cast (by decide) (by decide)), hid (R3.out.other hF (by decide))⟩
  clear hW hF
  go_wp2_with fail
  refine (wPut16_any ρ4 1 wb _ 6 0 4 65534 _ W4.out (by decide) (by decide) (by decide) (by decide)).mono ?_
  rintro en w5 ⟨rfl, hW, hF⟩
  obtain ⟨ρ5, C5, W5, R5⟩ : ∃ ρ5, Hid (Cx w ρ5 w5) ∧ Hid (IsW ρ5 1 w5 wb [1, 2, 0, 0, 255, 254] 6 0) ∧ Hid (IsR ρ5 2 w5 rb [1, 2, 3, 4, 5] 0) :=
    ⟨_, hid (C4.out.step hF (by decide) 1), hid (hW.cast (by decide) (by decide)), hid (R4.out.other hF (by decide))⟩
  clear hW hF
  go_wp2_with fail
  refine (wOut_any ρ5 1 wb _ 6 0 _ W5.out).mono ?_
  rintro en w6 ⟨v6, rfl, ho, hb⟩
  have V6 := hid (Rb.of_own (l := [1, 2, 0, 0, 255, 254]) (by intro x hx; simp at hx; omega) ho)
  have C6 := hid (C5.out.more hb)
  have R6 := hid (R5.out.below hb)
  clear ho hb
  go_wp2_with fail
  refine (same_any v6 _ [1, 2, 0, 0, 255, 254] [1, 2, 0, 0, 255, 254] _ (V6.out.below (bel_alloc w6 _)) (Rb.new (by intro x hx; simp at hx; omega) (heap_alloc_new w6 _) rfl rfl (by decide))).mono ?_
  rintro en w7 ⟨rfl, rfl⟩
  have C7 := hid (C6.out.more (bel_alloc w6 (.cells #[.int .u8 1, .int .u8 2, .int .u8 0, .int .u8 0, .int .u8 255, .int .u8 254] 5)))
  have R7 := hid (R6.out.below (bel_alloc w6 (.cells #[.int .u8 1, .int .u8 2, .int .u8 0, .int .u8 0, .int .u8 255, .int .u8 254] 5)))
  go_wp2_with fail
  refine (rU16_any ρ5 2 rb _ 0 _ R7.out).mono ?_
  rintro en w8 ⟨rfl, hR, hF, _⟩
  have C8 := hid (C7.out.step' hF (by decide))
  have R8 := hid (hR.cast (l' := [3, 4, 5]) (e' := 0) (by decide) (by decide))
  clear hR hF
  go_wp2_with fail
  refine (rLeft_any ρ5 2 rb _ 0 _ R8.out).mono ?_
  rintro en w9 ⟨rfl, rfl⟩
  go_wp2_with fail
  refine (rU32_any ρ5 2 rb _ 0 _ R8.out).mono ?_
  rintro en w10 ⟨rfl, hR, hF, _⟩
  have C10 := hid (C8.out.step' hF (by decide))
  have R10 := hid (hR.cast (l' := [3, 4, 5]) (e' := 20) (by decide) (by decide))
  clear hR hF
  go_wp2_with fail
  refine (rErr_any ρ5 2 rb _ _ _ R10.out).mono ?_
  rintro en w11 ⟨rfl, rfl⟩
  go_wp2_with fail
  go_ret
  exact ⟨rfl, C10.out.bel⟩

end Go.Proofs.Ytniiigidedcpaaa
