/-
  package wire's writer: Out, Put16, NewWriter.
-/
import Derived.Test.YtaecfcaeopmiaaaDoorU3
import Derived.BigRegion
namespace Go.Proofs.YtaecfcaeopmiaaaDoor
open Go.RowKit

/-- what Out tells: a copy of its own, or nothing and the error -/
def OutPost (l : List Int) (e : Int) (w : World) (en : Ending) (w' : World) : Prop :=
  ∃ v, en = .returned (.tuple #[v, .int .i64 e]) ∧ w'.ownsRow w.heap.size 5 1 v (if e = 0 then l else []).length (bts (if e = 0 then l else [])) ∧ Below w.heap.size w w'
theorem wOut_any (ρ : Nat → Nat) (i wb : Nat) (l : List Int) (lim e : Int) (w : World) (h : IsW ρ i w wb l lim e) :
    Calls Tryd.prog 47 #[.pointer (some ⟨wb, 0, none⟩)] w (OutPost l e w) := by
  obtain ⟨_, h2, h3, h4, h5, ov, h6, h7, _⟩ := h
  have HB := hid (Rb.of_own h2 h7)
  obtain ⟨c0, c1, c2, f0, f1, f2⟩ := cells3 h6
  by_cases he : e = 0
  · subst he
    clear h6 h7
    go_enter Tryd.func47, Tryd.ntmps47
    go_wp2_with (go_at_call 53; refine (clone_any _ l _ HB.out (by omega)).mono ?_; rintro en w1 ⟨v, rfl, ho, hb⟩)
    go_ret2
    exact ⟨v, rfl, ho, hb⟩
  · have he' : (e != 0) = true := by simpa using he
    have HE := hid he
    clear h6 h7 he
    go_enter Tryd.func47, Tryd.ntmps47
    go_wp2_with fail
    go_quiet (fail)
    go_wp2
    go_ret2
    refine ⟨_, rfl, ?_, (Same.drewN w nq).below _⟩
    rw [if_neg HE.out]
    exact World.ownsRow_nil _ _ _ _
/-- the error is told -/
theorem IsW.err {ρ : Nat → Nat} {i : Nat} {w : World} {wb : Nat} {l : List Int} {lim e : Int} (h : IsW ρ i w wb l lim e) (e' : Int) :
    IsW (ext ρ w.heap.size i) i (w.setCell ⟨wb, 2, none⟩ (.int .i64 e')) wb l lim e' ∧ FrO ρ i w (w.setCell ⟨wb, 2, none⟩ (.int .i64 e')) := by
  obtain ⟨h1, h2, h3, h4, h5, ov, h6, h7, h8⟩ := h
  refine ⟨⟨by rw [ext_old (lt_of_block h6)]; exact h1, h2, h3, h4, h5, ov, heap_store h6 _, own_move h7 fun b hb _ => Below.heap_setCell _ _ _ _ (wrow_ne h6 h7 hb), fun b hb => ?_⟩, FrO.setCell h1 _⟩
  rw [ext_old (own_lt h7 hb)]; exact h8 b hb
/-- a byte of what was written is another -/
theorem IsW.byte {ρ : Nat → Nat} {i : Nat} {w : World} {wb g cap : Nat} {l : List Int} {lim e : Int} (h2 : Byt l)
    (h6 : w.heap[wb]? = some (.cells #[.slice (some ⟨g, 0, none⟩) l.length cap, .int .i64 lim, .int .i64 e] 91 (0, 0)))
    (h7 : w.ownsRow 0 5 1 (.slice (some ⟨g, 0, none⟩) l.length cap) l.length (bts l)) (h8 : Lab ρ i (.slice (some ⟨g, 0, none⟩) l.length cap)) (j : Nat) (x : Int) (hx0 : 0 ≤ x) (hx1 : x ≤ 255) :
    Byt (l.set j x) ∧ (l.set j x).length = l.length ∧ (w.setCell ⟨g, j, none⟩ (.int .u8 x)).heap[wb]? = some (.cells #[.slice (some ⟨g, 0, none⟩) l.length cap, .int .i64 lim, .int .i64 e] 91 (0, 0)) ∧
      (w.setCell ⟨g, j, none⟩ (.int .u8 x)).ownsRow 0 5 1 (.slice (some ⟨g, 0, none⟩) l.length cap) l.length (bts (l.set j x)) ∧ FrO ρ i w (w.setCell ⟨g, j, none⟩ (.int .u8 x)) := by
  refine ⟨h2.set j hx0 hx1, List.length_set, ?_, ?_, FrO.setCell (h8 g rfl) _⟩
  · rw [Below.heap_setCell _ _ _ _ (fun e => wrow_ne h6 h7 (g := g) rfl e.symm)]; exact h6
  · have := World.ownsRow.stored h7 j (.int .u8 x)
    rw [show bts (l.set j x) = (bts l).set j (.int .u8 x) by simp [bts, List.map_set]]
    exact this.1

/-- a number is written over two bytes, or the error is told -/
def put16L (l : List Int) (e at_ v : Int) : List Int := if e ≠ 0 ∨ at_ < 0 ∨ (l.length : Int) - 2 < at_ then l else (l.set at_.toNat (v / 256)).set (at_.toNat + 1) (v % 256)
def put16E (l : List Int) (e at_ : Int) : Int := if e ≠ 0 then e else if at_ < 0 ∨ (l.length : Int) - 2 < at_ then 1 else 0
def Put16Post (ρ : Nat → Nat) (i wb : Nat) (l : List Int) (lim e at_ v : Int) (w : World) (en : Ending) (w' : World) : Prop :=
  en = .returned (.tuple #[]) ∧ IsW (ext ρ w.heap.size i) i w' wb (put16L l e at_ v) lim (put16E l e at_) ∧ FrO ρ i w w'

theorem wPut16_any (ρ : Nat → Nat) (i wb : Nat) (l : List Int) (lim e at_ v : Int) (w : World) (h : IsW ρ i w wb l lim e) (ha0 : -9223372036854775808 ≤ at_) (ha1 : at_ ≤ 9223372036854775807) (hv0 : 0 ≤ v) (hv1 : v ≤ 65535) :
    Calls Tryd.prog 48 #[.pointer (some ⟨wb, 0, none⟩), .int .i64 at_, .int .u16 v] w (Put16Post ρ i wb l lim e at_ v w) := by
  have H := hid h
  obtain ⟨h1, h2, h3, h4, h5, ov, h6, h7, h8⟩ := h
  obtain ⟨a, cap, rfl, hc, hm, hsh⟩ := own_shape h7
  obtain ⟨c0, c1, c2, f0, f1, f2⟩ := cells3 h6
  have H1 := hid h1
  have H6 := hid h6
  have H7 := hid h7
  have H8 := hid h8
  clear h1 h6 h7 h8
  unfold maxLen at hm
  by_cases he : e = 0
  · subst he
    by_cases hlo : at_ < 0
    · go_enter Tryd.func48, Tryd.ntmps48
      go_wp2
      go_end0
      refine ⟨rfl, ?_, (H.out.err 1).2⟩
      rw [put16L, put16E, if_pos (Or.inr (Or.inl hlo)), if_neg (by simp), if_pos (Or.inl hlo)]
      exact (H.out.err 1).1
    · by_cases hhi : (l.length : Int) - 2 < at_
      · go_enter Tryd.func48, Tryd.ntmps48
        go_wp2
        go_end0
        refine ⟨rfl, ?_, (H.out.err 1).2⟩
        rw [put16L, put16E, if_pos (Or.inr (Or.inr hhi)), if_neg (by simp), if_pos (Or.inr hhi)]
        exact (H.out.err 1).1
      · obtain ⟨k, rfl⟩ := Int.eq_ofNat_of_zero_le (by omega : 0 ≤ at_)
        have hlk : l.length ≠ 0 := by omega
        obtain ⟨g, rfl⟩ : ∃ g, a = some ⟨g, 0, none⟩ := by
          rcases hsh with ⟨_, h0, _⟩ | h
          · exact absurd h0 hlk
          · exact h
        have k0 := (World.ownsRow.cellAt H7.out k (by omega)).trans (bts_some (show k < l.length by omega))
        have k1 := (World.ownsRow.cellAt H7.out (k + 1) (by omega)).trans (bts_some (show k + 1 < l.length by omega))
        have z0 := World.ownsRow.frozenAt H7.out k
        have z1 := World.ownsRow.frozenAt H7.out (k + 1)
        go_enter Tryd.func48, Tryd.ntmps48
        go_wp2
        go_region
        go_end0
        obtain ⟨b1, b2, b3, b4, b5⟩ := IsW.byte h2 H6.out H7.out H8.out k (v / 256) (by omega) (by omega)
        obtain ⟨d1, d2, d3, d4, d5⟩ := IsW.byte (l := l.set k (v / 256)) b1 (by rw [b2]; exact b3) (by rw [b2]; exact b4) (by rw [b2]; exact H8.out) (k + 1) (v % 256) (by omega) (by omega)
        rw [b2] at d2 d3 d4
        refine ⟨rfl, ?_, ((b5.trans' d5).heap rfl rfl rfl rfl)⟩
        rw [put16L, put16E, if_neg (by simp; omega), if_neg (by simp), if_neg (by omega)]
        rw [Int.toNat_natCast]
        refine ⟨by rw [ext_old (lt_of_block H6.out)]; exact H1.out, d1, h3, h4, by rw [d2]; exact h5, _, d3, by rw [d2]; exact d4, fun b hb => ?_⟩
        rw [ext_old (own_lt H7.out hb)]
        exact H8.out b hb
  · have he' : (e != 0) = true := by simpa using he
    clear hsh
    go_enter Tryd.func48, Tryd.ntmps48
    go_wp2
    go_end0
    refine ⟨rfl, ?_, FrO.refl _ _ _⟩
    rw [put16L, put16E, if_pos (Or.inl he), if_pos he]
    exact H.out.relab fun k hk => ext_old hk
/-! ### a new writer -/
def NewWPost (ρ : Nat → Nat) (i : Nat) (lim : Int) (w : World) (en : Ending) (w' : World) : Prop :=
  en = .returned (.pointer (some ⟨w.heap.size, 0, none⟩)) ∧ IsW (ext ρ w.heap.size i) i w' w.heap.size [] lim 0 ∧ Below w.heap.size w w'
theorem newW_mk (ρ : Nat → Nat) (i : Nat) (lim : Int) (w : World) (h0 : 0 ≤ lim) (h1 : lim ≤ 65575) :
    NewWPost ρ i lim w (.returned (.pointer (some ⟨w.heap.size, 0, none⟩))) (w.alloc (.cells #[.slice none 0 0, .int .i64 lim, .int .i64 0] 91)) :=
  ⟨rfl, ⟨ext_new (Nat.le_refl _), Byt.nil, h0, h1, h0, _, heap_alloc_new w _, World.ownsRow_nil _ _ _ _, Lab.nil _ _⟩, (Below.refl _ _).alloc (Nat.le_refl _) _⟩
/-- the limit that a new writer has -/
def limOf (n : Int) : Int := if n < 0 then 0 else if 65575 < n then 65575 else n
theorem newWriter_any (ρ : Nat → Nat) (i : Nat) (n : Int) (w : World) : Calls Tryd.prog 42 #[.int .i64 n] w (NewWPost ρ i (limOf n) w) := by
  by_cases a : n < 0
  · have hl : limOf n = 0 := if_pos a
    rw [hl]
    clear hl
    go_enter Tryd.func42, Tryd.ntmps42
    go_wp2
    go_ret
    exact newW_mk ρ i 0 w (by omega) (by omega)
  · by_cases b : 65575 < n
    · have hl : limOf n = 65575 := by rw [limOf, if_neg a, if_pos b]
      rw [hl]
      clear hl
      go_enter Tryd.func42, Tryd.ntmps42
      go_wp2
      go_ret
      exact newW_mk ρ i 65575 w (by omega) (by omega)
    · have hl : limOf n = n := by rw [limOf, if_neg a, if_neg b]
      rw [hl]
      clear hl
      go_enter Tryd.func42, Tryd.ntmps42
      go_wp2
      go_ret
      exact newW_mk ρ i n w (by omega) (by omega)
end Go.Proofs.YtaecfcaeopmiaaaDoor
