/-
  Plain laws of datagrams: one other byte is told.
-/
import Derived.Test.YtpiafmnfneefiaaUdpY
import Derived.StillTailTactics
namespace Go.Proofs.Ytpiafmnfneefiaa
open Go.RowKit

theorem wp_still_tail {P : Program} {id : Nat} {Q : Exit → Act → World → Prop} {a : Act} {w : World} {l : List Oper} (n : Nat) (hm : P.follows .mixedOrders = true) (hB : Region.lexTailB .any l.toArray n = true)
    (h : ∀ w2, Same w w2 → wpStill P l.toArray w2 (fun a' => wpList P l.toArray Q (l.drop n) a' w2) (l.take n) a) : (Code.region id l.toArray true).wp P Q a w :=
  wp_region_still_tail n hm hB (h _ (Same.drew w))
theorem same_bel {w w' : World} (h : Same w w') : Below w.heap.size w w' := h.below _
theorem u8_xor {y q : Int} (hy : 0 ≤ y ∧ y ≤ 255) (hq : 1 ≤ q ∧ q ≤ 255) : (0 ≤ bits .xor .u8 y q ∧ bits .xor .u8 y q ≤ 255) ∧ bits .xor .u8 y q ≠ y := by
  have e : bits .xor .u8 y q = (((BitVec.ofInt 8 y ^^^ BitVec.ofInt 8 q).toNat : Nat) : Int) := by
    show IntKind.u8.wrap ((BitVec.ofInt 8 y ^^^ BitVec.ofInt 8 q).toNat : Nat) = _
    have := (BitVec.ofInt 8 y ^^^ BitVec.ofInt 8 q).isLt
    exact IntWalk.u8_in _ (by omega)
  have hlt := (BitVec.ofInt 8 y ^^^ BitVec.ofInt 8 q).isLt
  rw [e]
  refine ⟨by omega, fun hne => ?_⟩
  have h1 : (BitVec.ofInt 8 y ^^^ BitVec.ofInt 8 q) = BitVec.ofInt 8 y := by
    apply BitVec.eq_of_toNat_eq
    rw [BitVec.toNat_ofInt]
    omega
  have h2 : BitVec.ofInt 8 q = 0#8 := by
    have : BitVec.ofInt 8 y ^^^ (BitVec.ofInt 8 y ^^^ BitVec.ofInt 8 q) = BitVec.ofInt 8 y ^^^ BitVec.ofInt 8 y := by rw [h1]
    rw [← BitVec.xor_assoc, BitVec.xor_self, BitVec.zero_xor] at this
    exact this
  have h3 := congrArg BitVec.toNat h2
  rw [BitVec.toNat_ofInt] at h3
  simp at h3
  omega
theorem wsum_set : ∀ (l : List Int) (k : Nat) (x : Int), k < l.length → wsum (l.set k x) = wsum l + (if k % 2 = 0 then 256 * (x - gt l k) else x - gt l k)
  | [], k, x, h => by simp at h
  | [a], 0, x, _ => by simp [wsum, gt]; omega
  | [a], k + 1, x, h => by simp at h
  | a :: b :: r, 0, x, _ => by simp [wsum, gt]; omega
  | a :: b :: r, 1, x, _ => by simp [wsum, gt]; omega
  | a :: b :: r, k + 2, x, h => by
    have := wsum_set r k x (by simp at h; omega)
    have e : gt (a :: b :: r) (k + 2) = gt r k := by simp [gt]
    simp only [List.set_cons_succ, wsum, this, e]
    by_cases hk : k % 2 = 0
    · rw [if_pos hk, if_pos (by omega)]; omega
    · rw [if_neg hk, if_neg (by omega)]; omega
theorem gt_set_self {l : List Int} {k : Nat} {x : Int} (h : k < l.length) : gt (l.set k x) k = x := by simp [gt, h]
theorem gt_set_ne {l : List Int} {k j : Nat} {x : Int} (h : k ≠ j) : gt (l.set k x) j = gt l j := by simp [gt, List.getElem?_set, h]
/-- the answer to bytes of which one is another -/
theorem onebyte {V : Int} {b1 b2 : List Int} {sp dp : Int} {d r : List Int} {n : Nat} (M : Made V b1 b2 sp dp false d r n) (h : IsA V b1) (h2 : IsA V b2) {k : Nat} {x : Int} (hk : k < n) (hx : 0 ≤ x ∧ x ≤ 255) (hne : x ≠ gt r k) (hV : V = 4 ∨ V = 6) :
    ((k = 4 ∨ k = 5) → pgE V b1 V b2 (r.set k x) = 51) ∧ (¬ (k = 4 ∨ k = 5) → (gt (r.set k x) 6 = 0 ∧ gt (r.set k x) 7 = 0) → V = 4 → pgE V b1 V b2 (r.set k x) = 0) ∧
    (¬ (k = 4 ∨ k = 5) → (gt (r.set k x) 6 = 0 ∧ gt (r.set k x) 7 = 0) → V = 6 → pgE V b1 V b2 (r.set k x) = 52) ∧ (¬ (k = 4 ∨ k = 5) → ¬ (gt (r.set k x) 6 = 0 ∧ gt (r.set k x) 7 = 0) → pgE V b1 V b2 (r.set k x) = 52) := by
  obtain ⟨p1, p2, p3, p4, p5, p6⟩ := pg_ok M.back
  have hlen : (r.set k x).length = r.length := by simp
  have hrl := M.len
  have hB : Byt (r.set k x) := M.byt.set k hx.1 hx.2
  have z4 := hB.bd 4; have z5 := hB.bd 5; have z6 := hB.bd 6; have z7 := hB.bd 7
  have y4 := M.byt.bd 4; have y5 := M.byt.bd 5
  have W4 : wordL (r.set k x) 4 = 256 * gt (r.set k x) 4 + gt (r.set k x) 5 := rfl
  have W6 : wordL (r.set k x) 6 = 256 * gt (r.set k x) 6 + gt (r.set k x) 7 := rfl
  have V4 : wordL r 4 = 256 * gt r 4 + gt r 5 := rfl
  have hkl : k < r.length := by omega
  refine ⟨?_, ?_, ?_, ?_⟩
  · intro h45
    unfold pgE
    rw [if_neg (by simp [p1]), if_neg (by omega), if_pos]
    left
    rw [hlen, ← p3, W4, V4]
    rcases h45 with rfl | rfl
    · rw [gt_set_self hkl, gt_set_ne (by decide)]; omega
    · rw [gt_set_self hkl, gt_set_ne (by decide)]; omega
  all_goals
    intro h45
    have e4 : wordL (r.set k x) 4 = ((r.set k x).length : Int) := by
      rw [hlen, ← p3, W4, V4, gt_set_ne (by omega), gt_set_ne (by omega)]
  · rintro ⟨h6, h7⟩ hv
    refine pg_of p1 (by omega) e4 (by omega) (fun _ => by omega) (fun hz => ?_)
    exfalso; omega
  · rintro ⟨h6, h7⟩ hv
    unfold pgE
    rw [if_neg (by simp [p1]), if_neg (by omega), if_neg (by omega), if_pos (Or.inl ⟨by omega, hv⟩)]
  · intro h67
    have hz : wordL (r.set k x) 6 ≠ 0 := by omega
    suffices hp : partL (headL V b1 b2 17 ((r.set k x).length : Int) ++ r.set k x) ≠ 65535 by
      unfold pgE
      rw [if_neg (by simp [p1]), if_neg (by omega), if_neg (by omega), if_pos (Or.inr ⟨hz, hp⟩)]
    rw [hlen]
    have hsum := M.sum rfl
    have hm := mostV_le V
    have hH := headL_byt (V := V) (proto := 17) (n := (r.length : Int)) h.byt h2.byt (by omega) (by omega)
    have he := headL_even V 17 (r.length : Int) h.len h2.len
    rw [← hrl] at hsum
    have hw : wsum (headL V b1 b2 17 (r.length : Int) ++ r) = wsum (headL V b1 b2 17 (r.length : Int)) + wsum r := wsum_even _ _ he
    rw [← partL_even hH M.byt he] at hsum
    unfold partL at hsum ⊢
    rw [hw] at hsum
    rw [wsum_even _ _ he, wsum_set r k x hkl]
    have b1' := (wsum_bd hH).1
    have b2' := (wsum_bd M.byt).1
    have b3' := (wsum_bd hB).1
    rw [wsum_set r k x hkl] at b3'
    have yk := M.byt.bd k
    unfold foldL at hsum ⊢
    by_cases hk2 : k % 2 = 0
    · rw [if_pos hk2] at b3' ⊢
      split at hsum
      · omega
      · split <;> omega
    · rw [if_neg hk2] at b3' ⊢
      split at hsum
      · omega
      · split <;> omega
end Go.Proofs.Ytpiafmnfneefiaa
