/-
  mosaicref03: Valid.
-/
import Derived.Test.YthbdnmmmibdgpaaSp
namespace Go.Proofs.Ythbdnmmmibdgpaa
open Go.RowKit

def RV3Rel (w0 : World) (ds : List Int) (t : Value) (wr : World) : Prop := ∃ k : Nat, k ≤ 12 ∧ t = .int .i64 ((4 + k : Nat) : Int) ∧ zerosB (ds.take k) = true ∧ wr = w0
set_option maxHeartbeats 1600000 in
theorem rValid_any (V : Int) (bs : List Int) (w : World) (h : IsA V bs) : Calls Try.prog 46 #[addrV V bs] w (APost w (.bool (validA V bs))) := by
  have H := hid h
  have A := hid (AddrAt.alloc w V bs)
  have c0 := A.out.v
  have BB := hid (bel_alloc w (.cells (addrC V bs) 24))
  have hlen := h.len
  have hsp : validA V bs = if V = 6 then true else if zerosB (bs.drop 4) then decide (V = 4) else false := by
    unfold validA
    by_cases h4 : V = 4
    · subst h4; rw [if_pos rfl, if_neg (by decide)]; cases zerosB (bs.drop 4) <;> rfl
    · rw [if_neg h4]
      by_cases h6 : V = 6
      · rw [if_pos h6, decide_eq_true h6]
      · rw [if_neg h6, decide_eq_false h6, decide_eq_false h4]; cases zerosB (bs.drop 4) <;> rfl
  have Z := hid (show ∀ k, k < 12 → (w.alloc (.cells (addrC V bs) 24)).cell? ⟨w.heap.size, 1 + (4 + k), none⟩ = some (.int .u8 (gt (bs.drop 4) k)) ∧ (0 ≤ gt (bs.drop 4) k ∧ gt (bs.drop 4) k ≤ 255) from fun k hk => by
    have := A.out.b (j := 4 + k) (by omega)
    have e : gt (bs.drop 4) k = gt bs (4 + k) := by simp [gt, List.getElem?_drop]
    rw [e]
    exact ⟨this, H.out.byt.bd _⟩)
  have hdl : (bs.drop 4).length = 12 := by simp; omega
  have DL := hid hdl
  rw [hsp]
  clear hsp hdl hlen h
  generalize bs.drop 4 = ds at *
  unfold addrV
  by_cases h6 : V = 6
  · rw [if_pos h6]
    subst h6
    go_enter Try.func46, Try.ntmps46
    go_upto_region 1 with fail
    generalize w.alloc (.cells (addrC 6 bs) 24) = w1 at *
    go_wp2_with fail
    go_ret
    exact ⟨rfl, BB.out⟩
  · rw [if_neg h6]
    have hb6 : (V == 6) = false := by simp [h6]
    generalize hn : (if zerosB ds then decide (V = 4) else false) = n
    have HN := hid hn
    clear hn h6
    go_enter Try.func46, Try.ntmps46
    go_upto_region 1 with fail
    generalize w.alloc (.cells (addrC V bs) 24) = w1 at *
    go_wp2_with fail
    go_loopw [3] (fun t wr => RV3Rel w1 ds t wr) (fun t _ => 16 - (intOf t).toNat)
    case atStart => exact ⟨0, by omega, rfl, rfl, rfl⟩
    case round =>
      obtain ⟨k, hk, rfl, hz, rfl⟩ := hrel
      have HZ := hid hz
      clear hz
      by_cases hlt : k < 12
      · have hlt' : k < ds.length := by have := DL.out; omega
        obtain ⟨ck, hx⟩ := Z.out k hlt
        have e1 := hid (show zerosB (ds.take (k + 1)) = (zerosB (ds.take k) && decide (gt ds k = 0)) by
          rw [take_snoc hlt']; simp [zerosB])
        have e2 := hid (show gt ds k ≠ 0 → zerosB ds = false from fun h => by
          cases hz : zerosB ds with
          | false => rfl
          | true =>
            simp only [zerosB, List.all_eq_true, decide_eq_true_eq] at hz
            exact absurd (by rw [gt_eq hlt']; exact hz _ (List.getElem_mem hlt')) h)
        generalize gt ds k = x at *
        by_cases hx0 : x = 0
        · subst hx0
          go_wp2_with fail
          go_roundw
          case rel => exact ⟨k + 1, by omega, by go_num, by rw [e1.out, HZ.out]; rfl, rfl⟩
          case measure => simp [intOf]; omega
        · have e3 := hid (e2.out hx0)
          have hd : (x == 0) = false := by simp [hx0]
          have hd2 : (x != 0) = true := by simp [hx0]
          clear hx0 e1 e2
          go_wp2_with fail
          go_ret
          exact ⟨by rw [← HN.out, e3.out]; rfl, BB.out⟩
      · have hk12 : k = 12 := by omega
        subst hk12
        have e3 := hid (show zerosB ds = true by have := HZ.out; rwa [List.take_of_length_le (by rw [DL.out]; omega)] at this)
        by_cases h4 : V = 4
        · have hb4 : (V == 4) = true := by simp [h4]
          have H4 := hid (decide_eq_true h4)
          clear h4
          go_wp2_with fail
          go_ret
          exact ⟨by rw [← HN.out, e3.out, H4.out]; rfl, BB.out⟩
        · have hb4 : (V == 4) = false := by simp [h4]
          have H4 := hid (decide_eq_false h4)
          clear h4
          go_wp2_with fail
          go_ret
          exact ⟨by rw [← HN.out, e3.out, H4.out]; rfl, BB.out⟩
end Go.Proofs.Ythbdnmmmibdgpaa
