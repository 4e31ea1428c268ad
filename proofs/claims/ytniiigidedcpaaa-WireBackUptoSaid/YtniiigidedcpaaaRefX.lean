/-
  The document's writer of layer 2: Put16, Out, NewWriter.
-/
import Derived.Test.YtniiigidedcpaaaRefW
namespace Go.Proofs.Ytniiigidedcpaaa
open Go.RowKit

def MPut16Post (ρ : Nat → Nat) (i wb : Nat) (l : List Int) (lim e at_ v : Int) (w : World) (en : Ending) (w' : World) : Prop :=
  en = .returned (.tuple #[]) ∧ IsM (ext ρ w.heap.size i) i w' wb (put16L l e at_ v) lim (put16E l e at_) ∧ FrO ρ i w w'

theorem mPut16_any (ρ : Nat → Nat) (i wb : Nat) (l : List Int) (lim e at_ v : Int) (w : World) (h : IsM ρ i w wb l lim e) (ha0 : -9223372036854775808 ≤ at_) (ha1 : at_ ≤ 9223372036854775807) (hv0 : 0 ≤ v) (hv1 : v ≤ 65535) :
    Calls Try.prog 43 #[.pointer (some ⟨wb, 0, none⟩), .int .i64 at_, .int .u16 v] w (MPut16Post ρ i wb l lim e at_ v w) := by
  have H := hid h
  obtain ⟨h1, h2, h3, h4, h5, ov, h6, h7, h8⟩ := h
  obtain ⟨a, cap, rfl, hc, hm, hsh⟩ := own_shape h7
  obtain ⟨c0, c1, c2, f0, f1, f2⟩ := cells3 h6
  have H1 := hid h1
  have H6 := hid h6
  have H7 := hid h7
  have H8 := hid h8
  clear h1 h6 h7 h8
  unfold maxLen at hm
  by_cases he : e = 0
  · subst he
    by_cases hlo : at_ < 0
    · have hlo' : decide (at_ < 0) = true := by simpa using hlo
      go_enter Try.func43, Try.ntmps43
      go_wp2
      go_end0
      refine ⟨rfl, ?_, (H.out.err 1).2⟩
      rw [put16L, put16E, if_pos (Or.inr (Or.inl hlo)), if_neg (by simp), if_pos (Or.inl hlo)]
      exact (H.out.err 1).1
    · have hlo' : decide (at_ < 0) = false := by simpa using hlo
      by_cases hhi : (l.length : Int) - 2 < at_
      · have hhi' : decide ((l.length : Int) - 2 < at_) = true := by simpa using hhi
        go_enter Try.func43, Try.ntmps43
        go_wp2
        go_end0
        refine ⟨rfl, ?_, (H.out.err 1).2⟩
        rw [put16L, put16E, if_pos (Or.inr (Or.inr hhi)), if_neg (by simp), if_pos (Or.inr hhi)]
        exact (H.out.err 1).1
      · obtain ⟨k, rfl⟩ := Int.eq_ofNat_of_zero_le (by omega : 0 ≤ at_)
        have hhi' : decide ((l.length : Int) - 2 < (k : Int)) = false := by simpa using hhi
        have hlk : l.length ≠ 0 := by omega
        obtain ⟨g, rfl⟩ : ∃ g, a = some ⟨g, 0, none⟩ := by
          rcases hsh with ⟨_, h0, _⟩ | h
          · exact absurd h0 hlk
          · exact h
        have hgw : g ≠ wb := mrow_ne H6.out H7.out rfl
        have k0 := (World.ownsRow.cellAt H7.out k (by omega)).trans (bts_some (show k < l.length by omega))
        have k1 := (World.ownsRow.cellAt H7.out (k + 1) (by omega)).trans (bts_some (show k + 1 < l.length by omega))
        have z0 := World.ownsRow.frozenAt H7.out k
        have z1 := World.ownsRow.frozenAt H7.out (k + 1)
        have t1 : IntKind.u16.wrap (v.tdiv 256) = v / 256 := by rw [Int.tdiv_eq_ediv_of_nonneg hv0]; show (v / 256) % 65536 = _; omega
        have t2 : IntKind.u8.wrap (v / 256) = v / 256 := by show (v / 256) % 256 = _; omega
        have t3 : v.tmod 256 = v % 256 := Int.tmod_eq_emod_of_nonneg hv0
        have t4 : IntKind.u8.wrap (v % 256) = v % 256 := by show (v % 256) % 256 = _; omega
        have t5 : IntKind.u16.wrap (v % 256) = v % 256 := by show (v % 256) % 65536 = _; omega
        go_enter Try.func43, Try.ntmps43
        go_wp2
        go_end0
        obtain ⟨b1, b2, b3, b4, b5⟩ := IsM.byte h2 H6.out H7.out H8.out k (v / 256) (by omega) (by omega)
        obtain ⟨d1, d2, d3, d4, d5⟩ := IsM.byte (l := l.set k (v / 256)) b1 (by rw [b2]; exact b3) (by rw [b2]; exact b4) (by rw [b2]; exact H8.out) (k + 1) (v % 256) (by omega) (by omega)
        rw [b2] at d2 d3 d4
        refine ⟨rfl, ?_, ((b5.trans' d5).heap rfl rfl rfl rfl)⟩
        rw [put16L, put16E, if_neg (by simp; omega), if_neg (by simp), if_neg (by omega)]
        rw [Int.toNat_natCast]
        refine ⟨by rw [ext_old (lt_of_block H6.out)]; exact H1.out, d1, h3, h4, by rw [d2]; exact h5, _, d3, by rw [d2]; exact d4, fun b hb => ?_⟩
        rw [ext_old (own_lt H7.out hb)]
        exact H8.out b hb
  · have he' : (e != 0) = true := by simpa using he
    clear hsh
    go_enter Try.func43, Try.ntmps43
    go_wp2
    go_end0
    refine ⟨rfl, ?_, FrO.refl _ _ _⟩
    rw [put16L, put16E, if_pos (Or.inl he), if_pos he]
    exact H.out.relab fun k hk => ext_old hk

theorem mOut_any (ρ : Nat → Nat) (i wb : Nat) (l : List Int) (lim e : Int) (w : World) (h : IsM ρ i w wb l lim e) :
    Calls Try.prog 44 #[.pointer (some ⟨wb, 0, none⟩)] w (OutPost l e w) := by
  obtain ⟨i0, hi, hz0, hz1, hz2⟩ := info_parts Try.info5
  obtain ⟨_, h2, h3, h4, h5, ov, h6, h7, _⟩ := h
  have HB := hid (Rb.of_own h2 h7)
  obtain ⟨c0, c1, c2, f0, f1, f2⟩ := cells3 h6
  by_cases he : e = 0
  · subst he
    clear h6 h7
    go_enter Try.func44, Try.ntmps44
    go_wp2_with (at_builtin; refine wpList_append_bytes rfl _ _ 22 rfl w.heap.size 5 i0 _ Try.underlying22 hi hz0 hz1 hz2 rfl (.slice none 0 0) 0 [] rfl (World.ownsRow_nil _ _ _ _) _ l rfl HB.out (by omega) (Nat.le_refl _) ?_; intro a2 c2 w2 ho hg hat)
    go_ret2
    refine ⟨_, rfl, ?_, (Below.refl _ _).grown hg (Nat.le_refl _) (by simp [Value.ownBlock])⟩
    simpa using ho
  · have he' : (e != 0) = true := by simpa using he
    have HE := hid he
    clear h6 h7 he
    go_enter Try.func44, Try.ntmps44
    go_wp2_with fail
    go_quiet (fail)
    go_wp2
    go_ret2
    refine ⟨_, rfl, ?_, (Same.drewN w nq).below _⟩
    rw [if_neg HE.out]
    exact World.ownsRow_nil _ _ _ _

/-! ### a new writer -/
def NewMPost (ρ : Nat → Nat) (i : Nat) (lim : Int) (w : World) (en : Ending) (w' : World) : Prop :=
  en = .returned (.pointer (some ⟨w.heap.size, 0, none⟩)) ∧ IsM (ext ρ w.heap.size i) i w' w.heap.size [] lim 0 ∧ Below w.heap.size w w'
theorem newM_mk (ρ : Nat → Nat) (i : Nat) (lim : Int) (w : World) (h0 : 0 ≤ lim) (h1 : lim ≤ 65575) :
    NewMPost ρ i lim w (.returned (.pointer (some ⟨w.heap.size, 0, none⟩))) (w.alloc (.cells #[.int .i64 lim, .slice none 0 0, .int .i64 0] 82)) :=
  ⟨rfl, ⟨ext_new (Nat.le_refl _), Byt.nil, h0, h1, h0, _, heap_alloc_new w _, World.ownsRow_nil _ _ _ _, Lab.nil _ _⟩, (Below.refl _ _).alloc (Nat.le_refl _) _⟩
theorem limOf_eq (n : Int) : max 0 (min n 65575) = limOf n := by unfold limOf; omega
theorem newMWriter_any (ρ : Nat → Nat) (i : Nat) (n : Int) (w : World) : Calls Try.prog 21 #[.int .i64 n] w (NewMPost ρ i (limOf n) w) := by
  go_enter Try.func21, Try.ntmps21
  go_wp2
  · go_ret
    have hl : limOf n = 65575 := by unfold limOf; omega
    rw [hl]
    exact newM_mk ρ i 65575 w (by omega) (by omega)
  · go_ret
    have hl : limOf n = n := by unfold limOf; omega
    rw [hl]
    exact newM_mk ρ i n w (by omega) (by omega)
  · go_ret
    have hl : limOf n = 0 := by unfold limOf; omega
    rw [hl]
    exact newM_mk ρ i 0 w (by omega) (by omega)

end Go.Proofs.Ytniiigidedcpaaa
