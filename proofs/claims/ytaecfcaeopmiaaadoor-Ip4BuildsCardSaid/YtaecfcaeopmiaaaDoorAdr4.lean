/-
  mosaicref05.Address4: is it an address of version 4?
-/
import Derived.Test.YtaecfcaeopmiaaaDoorAddr
namespace Go.Proofs.YtaecfcaeopmiaaaDoor
open Go.RowKit

def z4 (V : Int) (bs : List Int) : Bool := zerosB (bs.drop 4) && decide (V = 4)
theorem z4_valid (V : Int) (bs : List Int) : z4 V bs = (decide (V = 4) && validA V bs) := by
  unfold z4 validA
  by_cases h : V = 4
  · subst h
    simp
  · simp [h]
def A4Rel (w0 : World) (ds : List Int) (t : Value) (wr : World) : Prop := ∃ k : Nat, k ≤ 12 ∧ t = .int .i64 ((4 + k : Nat) : Int) ∧ zerosB (ds.take k) = true ∧ wr = w0
set_option maxHeartbeats 1600000 in
theorem addr4_any (V : Int) (bs : List Int) (w : World) (h : IsA V bs) : Calls Tryd.prog 63 #[.agg (addrC V bs)] w (APost w (.bool (z4 V bs))) := by
  have H := hid h
  have A := hid (AddrAt.alloc w V bs)
  have c0 := A.out.v
  have BB := hid (bel_alloc w (.cells (addrC V bs) 27))
  have hlen := h.len
  have Z := hid (show ∀ k, k < 12 → (w.alloc (.cells (addrC V bs) 27)).cell? ⟨w.heap.size, 1 + (4 + k), none⟩ = some (.int .u8 (gt (bs.drop 4) k)) ∧ (0 ≤ gt (bs.drop 4) k ∧ gt (bs.drop 4) k ≤ 255) from fun k hk => by
    have := A.out.b (j := 4 + k) (by omega)
    have e : gt (bs.drop 4) k = gt bs (4 + k) := by simp [gt, List.getElem?_drop]
    rw [e]
    exact ⟨this, H.out.byt.bd _⟩)
  have hdl : (bs.drop 4).length = 12 := by simp; omega
  have DL := hid hdl
  unfold z4
  clear hdl hlen h
  generalize bs.drop 4 = ds at *
  generalize hn : (zerosB ds && decide (V = 4)) = n
  have HN := hid hn
  clear hn
  go_enter Tryd.func63, Tryd.ntmps63
  go_upto_region 1 with fail
  generalize w.alloc (.cells (addrC V bs) 27) = w1 at *
  go_wp2_with fail
  go_loopw [3] (fun t wr => A4Rel w1 ds t wr) (fun t _ => 16 - (intOf t).toNat)
  case atStart => exact ⟨0, by omega, rfl, rfl, rfl⟩
  case round =>
    obtain ⟨k, hk, rfl, hz, rfl⟩ := hrel
    have HZ := hid hz
    clear hz
    by_cases hlt : k < 12
    · have hlt' : k < ds.length := by have := DL.out; omega
      obtain ⟨ck, hx⟩ := Z.out k hlt
      have e1 := hid (show zerosB (ds.take (k + 1)) = (zerosB (ds.take k) && decide (gt ds k = 0)) by
        rw [take_snoc hlt']; simp [zerosB])
      have e2 := hid (show gt ds k ≠ 0 → zerosB ds = false from fun h => by
        cases hz : zerosB ds with
        | false => rfl
        | true =>
          simp only [zerosB, List.all_eq_true, decide_eq_true_eq] at hz
          exact absurd (by rw [gt_eq hlt']; exact hz _ (List.getElem_mem hlt')) h)
      generalize gt ds k = x at *
      by_cases hx0 : x = 0
      · subst hx0
        go_wp2_with fail
        go_roundw
        case rel => exact ⟨k + 1, by omega, by go_num, by rw [e1.out, HZ.out]; rfl, rfl⟩
        case measure => simp [intOf]; omega
      · have e3 := hid (e2.out hx0)
        have hd : (x == 0) = false := by simp [hx0]
        have hd2 : (x != 0) = true := by simp [hx0]
        clear hx0 e1 e2
        go_wp2_with fail
        go_ret
        exact ⟨by rw [← HN.out, e3.out]; rfl, BB.out⟩
    · have hk12 : k = 12 := by omega
      subst hk12
      have e3 := hid (show zerosB ds = true by have := HZ.out; rwa [List.take_of_length_le (by rw [DL.out]; omega)] at this)
      by_cases h4 : V = 4
      · have hb4 : (V == 4) = true := by simp [h4]
        have H4 := hid (decide_eq_true h4)
        clear h4
        go_wp2_with fail
        go_ret
        exact ⟨by rw [← HN.out, e3.out, H4.out]; rfl, BB.out⟩
      · have hb4 : (V == 4) = false := by simp [h4]
        have H4 := hid (decide_eq_false h4)
        clear h4
        go_wp2_with fail
        go_ret
        exact ⟨by rw [← HN.out, e3.out, H4.out]; rfl, BB.out⟩
end Go.Proofs.YtaecfcaeopmiaaaDoor
