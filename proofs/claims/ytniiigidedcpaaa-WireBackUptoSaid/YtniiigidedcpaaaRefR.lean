/-
  The document's reader of layer 2 (mosaicref02): what its block holds, and what each of its methods does to it: the same words as the program's.
-/
import Derived.Test.YtniiigidedcpaaaRefX
namespace Go.Proofs.Ytniiigidedcpaaa
open Go.RowKit

/-- block nb is the document's reader that has still to read l, and has the error e -/
def IsN (ρ : Nat → Nat) (i : Nat) (w : World) (nb : Nat) (l : List Int) (e : Int) : Prop :=
  ρ nb = i ∧ ∃ sv full, ∃ rd : Nat, full.length ≤ 140737488355328 ∧ rd ≤ full.length ∧ l = full.drop rd ∧ w.heap[nb]? = some (.cells #[sv, .int .i64 rd, .int .i64 e] 87 (0, 0)) ∧ Rb w sv full ∧ (full ≠ [] → Lab ρ i sv)
theorem IsN.moves {ρ ρ' : Nat → Nat} {i : Nat} {w w' : World} {nb : Nat} {l : List Int} {e : Int} (h : IsN ρ i w nb l e) (hb : ∀ k, k < w.heap.size → ρ k = i → w'.heap[k]? = w.heap[k]?) (hl : ∀ k, k < w.heap.size → ρ' k = ρ k) : IsN ρ' i w' nb l e := by
  obtain ⟨h1, sv, full, rd, h2, h3, h4, h5, h6, h7⟩ := h
  have hn := lt_of_block h5
  exact ⟨by rw [hl _ hn]; exact h1, sv, full, rd, h2, h3, h4, by rw [hb _ hn h1]; exact h5, h6.move fun hne b hb' hlt => hb b hlt (h7 hne b hb'), fun hne b hb' => by rw [hl _ (h6.lt hne hb')]; exact h7 hne b hb'⟩
theorem IsN.byt {ρ : Nat → Nat} {i : Nat} {w : World} {nb : Nat} {l : List Int} {e : Int} (h : IsN ρ i w nb l e) : Byt l := by
  obtain ⟨h1, sv, full, rd, h2, h3, rfl, h5, h6, h7⟩ := h
  exact h6.byt.drop _
theorem IsN.len {ρ : Nat → Nat} {i : Nat} {w : World} {nb : Nat} {l : List Int} {e : Int} (h : IsN ρ i w nb l e) : l.length ≤ 140737488355328 := by
  obtain ⟨h1, sv, full, rd, h2, h3, rfl, h5, h6, h7⟩ := h
  simp; omega
/-- a cell of what is to be read is none of the reader's own block -/
theorem ncell_ne {w : World} {rb b o : Nat} {sv : Value} {r e x : Int} (h2 : w.heap[rb]? = some (.cells #[sv, .int .i64 r, .int .i64 e] 87 (0, 0))) (hs : ∀ k n, sv ≠ .int k n) (hc : w.cell? ⟨b, o, none⟩ = some (.int .u8 x)) : b ≠ rb := by
  intro eq
  subst eq
  simp only [World.cell?, h2] at hc
  match o, hc with
  | 0, hc => simp at hc; exact hs _ _ hc
  | 1, hc => simp at hc
  | 2, hc => simp at hc
  | n + 3, hc => simp at hc
theorem Rb.nstore {w : World} {rb o : Nat} {sv v u : Value} {r e : Int} {l : List Int} (h2 : w.heap[rb]? = some (.cells #[sv, .int .i64 r, .int .i64 e] 87 (0, 0))) (hs : ∀ k n, sv ≠ .int k n) (h : Rb w v l) : Rb (w.setCell ⟨rb, o, none⟩ u) v l :=
  h.move fun hn b hb _ => Below.heap_setCell _ _ _ _ (by
    obtain ⟨a, cap, rfl, _, _, h4⟩ := h.open
    rcases h4 with h0 | ⟨b', off, rfl, hc⟩
    · exact absurd (List.length_eq_zero_iff.1 h0) hn
    · simp only [Value.ownBlock, Option.some.injEq] at hb
      subst hb
      exact ncell_ne h2 hs (hc 0 (List.length_pos_iff.2 hn)))
theorem IsN.err {ρ : Nat → Nat} {i : Nat} {w : World} {nb : Nat} {l : List Int} {e : Int} (h : IsN ρ i w nb l e) (e' : Int) :
    IsN ρ i (w.setCell ⟨nb, 2, none⟩ (.int .i64 e')) nb l e' ∧ FrO ρ i w (w.setCell ⟨nb, 2, none⟩ (.int .i64 e')) := by
  obtain ⟨h1, sv, full, rd, h2, h3, h4, h5, h6, h7⟩ := h
  have hs : ∀ k n, sv ≠ .int k n := by obtain ⟨a, cap, rfl, _⟩ := h6.open; intro k n h; cases h
  exact ⟨⟨h1, sv, full, rd, h2, h3, h4, heap_store h5 _, h6.nstore h5 hs, h7⟩, FrO.setCell h1 _⟩

/-! ### a new one -/
def NewNPost (ρ : Nat → Nat) (i : Nat) (l : List Int) (w : World) (en : Ending) (w' : World) : Prop :=
  ∃ nb, en = .returned (.pointer (some ⟨nb, 0, none⟩)) ∧ w.heap.size ≤ nb ∧ IsN (ext ρ w.heap.size i) i w' nb l 0 ∧ Below w.heap.size w w'
def NewNRel (l : List Int) (w : World) (i : Value) (wr : World) : Prop :=
  ∃ (k : Nat) (v : Value), k ≤ l.length ∧ i = .int .i64 k ∧ wr.heap[w.heap.size]? = some (.cells #[v, .int .i64 0, .int .i64 0] 87 (0, 0)) ∧ wr.ownsRow w.heap.size 5 1 v k (bts (l.take k)) ∧ Below w.heap.size w wr
theorem nrow_ne {w : World} {wb g base : Nat} {cs : Array Value} {v : Value} {n : Nat} {xs : List Value} (h6 : w.heap[wb]? = some (.cells cs 87 (0, 0))) (h7 : w.ownsRow base 5 1 v n xs) (hb : v.ownBlock = some g) : g ≠ wb := by
  intro e
  subst e
  rcases h7.2 with ⟨rfl, _⟩ | ⟨g', cap', cur, rfl, _, hg, _⟩
  · simp [Value.ownBlock] at hb
  · simp only [Value.ownBlock, Option.some.injEq] at hb
    subst hb
    have := hg.symm.trans h6
    simp at this
theorem nblock_grown {w w0 w2 : World} {wb base : Nat} {o : Obj} {cs : Array Value} {v : Value} {n : Nat} {xs : List Value} (h6 : w.heap[wb]? = some (.cells cs 87 (0, 0))) (h7 : w.ownsRow base 5 1 v n xs)
    (h0 : w0.heap = (w.alloc o).heap) (hg : w0.grownBy w2 v.ownBlock) : w2.heap[wb]? = some (.cells cs 87 (0, 0)) := by
  have hlt := lt_of_block h6
  rw [hg.block wb (by rw [h0]; simp; omega) (fun e => nrow_ne h6 h7 e.symm rfl), h0, Below.heap_alloc _ _ _ hlt]
  exact h6
theorem bel_heap {B : Nat} {a w b : World} (h : Below B a w) (ho : b.os = w.os) (ht : b.tape = w.tape) (hp : b.output = w.output) (hh : b.heap = w.heap) : Below B a b :=
  ⟨ho.trans h.os, ht.trans h.tape, hp.trans h.output, by rw [hh]; exact h.size, fun k hk => by rw [hh]; exact h.block k hk⟩

set_option maxHeartbeats 800000 in
theorem newN_any (ρ : Nat → Nat) (i : Nat) (v : Value) (l : List Int) (w : World) (h : Rb w v l) (hl : l.length ≤ 140737488355328) : Calls Try.prog 23 #[v] w (NewNPost ρ i l w) := by
  obtain ⟨i0, hi, hz0, hz1, hz2⟩ := info_parts Try.info5
  have HB := hid h
  obtain ⟨a, cap, rfl, hc, hm, hz⟩ := h.open
  unfold maxLen at hm
  have HZ := hid hz
  clear h hz
  go_enter Try.func23, Try.ntmps23
  go_wp2
  go_loopw [4] (fun i wr => NewNRel l w i wr) (fun i _ => l.length - (intOf i).toNat)
  case atStart => exact ⟨0, .slice none 0 0, Nat.zero_le _, rfl, heap_alloc_new w _, World.ownsRow_nil _ _ _ _, bel_alloc w _⟩
  case round =>
    obtain ⟨k, v, hk, rfl, hbk, hown, hbl⟩ := hrel
    obtain ⟨a1, c1, rfl, _, _, _⟩ := own_shape hown
    obtain ⟨c0, c1, c2, f0, f1, f2⟩ := cells3 hbk
    have HO := hid hown
    have HBl := hid hbl
    have HK := hid hbk
    have hnb := lt_of_block hbk
    clear hown hbl hbk
    by_cases hlt : k < l.length
    · rcases HZ.out with h0 | ⟨b, off, rfl, hcell⟩
      · omega
      have hb := World.block_lt_of_cell? _ _ (hcell k hlt)
      have hck := (HBl.out.cell (p := ⟨b, off + k, none⟩) hb).trans (hcell k hlt)
      have hx := HB.out.byt.bd k
      have hts := hid (take_snoc hlt)
      clear hcell
      generalize hg : gt l k = x at *
      clear hg
      go_wp2_with fail
      go_region_law ((refine step_append_bytes rfl _ _ 22 rfl w.heap.size 5 i0 _ Try.underlying22 hi hz0 hz1 hz2 rfl (.slice a1 k _) _ _ rfl (World.ownsRow.drew (World.ownsRow.alloc HO.out _)) _ [x] rfl (Rb.new (Byt.one hx.1 hx.2) (heap_alloc_new wr _) rfl rfl (by unfold maxLen; omega)) (by simp; omega) (by have := HBl.out.size; simp; omega) ?_; intro a2 cap2 w2 ho hg hat; obtain ⟨d0, d1, d2, g0, g1, g2⟩ := cells3 (nblock_grown HK.out HO.out (w0 := (wr.alloc _).drew) rfl hg)))
      all_goals
        go_wp2
        go_roundw
        case rel =>
          have hK2 := nblock_grown HK.out HO.out (w0 := (wr.alloc _).drew) rfl hg
          refine ⟨k + 1, _, by omega, by go_num, heap_store hK2 _, own_move ?_ fun b hb _ => Below.heap_setCell _ _ _ _ (nrow_ne hK2 ho hb), ?_⟩
          · rw [hts.out, bts_append]
            exact ho
          · exact ((bel_heap (b := (wr.alloc (.cells #[.int .u8 x] 5)).drew) (HBl.out.alloc HBl.out.size _) rfl rfl rfl rfl).grown hg (by have := HBl.out.size; simp; omega) fun g hgb => (HO.out.lt g hgb).1).setCell (Nat.le_refl _) _
        case measure => (simp [intOf]) <;> omega
    · have hkl : k = l.length := by omega
      subst hkl
      go_wp2
      go_ret
      have ho := HO.out
      rw [List.take_length] at ho
      have hB := HBl.out
      exact ⟨w.heap.size, rfl, Nat.le_refl _, ⟨ext_new (Nat.le_refl _), _, l, 0, hl, Nat.zero_le _, by simp, HK.out, Rb.of_own HB.out.byt ho, fun _ b hb' => ext_new (ho.lt b hb').1⟩, hB⟩

/-! ### Left, End -/
theorem nLeft_any (ρ : Nat → Nat) (i nb : Nat) (l : List Int) (e : Int) (w : World) (h : IsN ρ i w nb l e) :
    Calls Try.prog 48 #[.pointer (some ⟨nb, 0, none⟩)] w fun en w' => en = .returned (.int .i64 l.length) ∧ Same w w' := by
  obtain ⟨h1, sv, full, rd, h2, h3, rfl, h5, h6, h7⟩ := h
  obtain ⟨a, cap, rfl, _, _, _⟩ := h6.open
  obtain ⟨c0, c1, c2, f0, f1, f2⟩ := cells3 h5
  clear h5 h6 h7
  have hw : IntKind.i64.wrap ((full.length : Int) - rd) = ((full.length - rd : Nat) : Int) := by rw [IntWalk.i64_in _ (by omega)]; omega
  go_enter Try.func48, Try.ntmps48
  go_wp2_with fail
  go_quiet (fail)
  go_wp2
  go_ret
  exact ⟨by rw [List.length_drop]; rfl, Same.drewN w nq⟩
theorem nEnd_any (ρ : Nat → Nat) (i nb : Nat) (l : List Int) (e : Int) (w : World) (h : IsN ρ i w nb l e) :
    Calls Try.prog 47 #[.pointer (some ⟨nb, 0, none⟩)] w fun en w' => en = .returned (.int .i64 (endE l e)) ∧ Same w w' := by
  have H := hid h
  obtain ⟨h1, sv, full, rd, h2, h3, h4, h5, h6, h7⟩ := h
  obtain ⟨a, cap, rfl, _, _, _⟩ := h6.open
  obtain ⟨c0, c1, c2, f0, f1, f2⟩ := cells3 h5
  clear h5 h6 h7 h4
  by_cases he : e = 0
  · subst he
    by_cases hl : 0 < l.length
    · have hE : endE l 0 = 21 := by simp [endE]; exact List.length_pos_iff.1 hl
      rw [hE]
      clear hE
      have hl' : decide ((0 : Int) < l.length) = true := by simp; exact hl
      go_enter Try.func47, Try.ntmps47
      go_wp2_with fail
      refine (nLeft_any ρ i nb l 0 _ H.out).mono ?_
      rintro en w1 ⟨rfl, hS⟩
      go_wp2_with fail
      go_ret
      exact ⟨rfl, hS⟩
    · have hl0 : l = [] := List.length_eq_zero_iff.1 (by omega)
      subst hl0
      have hE : endE [] 0 = 0 := by simp [endE]
      rw [hE]
      clear hE hl
      go_enter Try.func47, Try.ntmps47
      go_wp2_with fail
      refine (nLeft_any ρ i nb [] 0 _ H.out).mono ?_
      rintro en w1 ⟨rfl, hS⟩
      have k2 := (hS.cell ⟨nb, 2, none⟩).trans c2
      have z2 := (hS.frozen ⟨nb, 2, none⟩).trans f2
      go_wp2_with fail
      go_ret
      exact ⟨rfl, hS⟩
  · have hE : endE l e = e := by simp [endE, he]
    rw [hE]
    have he' : (e == 0) = false := by simpa using he
    clear hE he
    go_enter Try.func47, Try.ntmps47
    go_wp2
    go_ret
    exact ⟨rfl, Same.refl _⟩

end Go.Proofs.Ytniiigidedcpaaa
