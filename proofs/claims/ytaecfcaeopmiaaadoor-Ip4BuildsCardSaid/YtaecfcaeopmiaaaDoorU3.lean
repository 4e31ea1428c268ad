/-
  The other methods of package wire's writer, and NewWriter.
-/
import Derived.Test.YtaecfcaeopmiaaaDoorU2
namespace Go.Proofs.YtaecfcaeopmiaaaDoor
open Go.RowKit

theorem wU8_any (ρ : Nat → Nat) (i wb : Nat) (l : List Int) (lim e v : Int) (w : World) (h : IsW ρ i w wb l lim e) (hv0 : 0 ≤ v) (hv1 : v ≤ 255) :
    Calls Tryd.prog 43 #[.pointer (some ⟨wb, 0, none⟩), .int .u8 v] w (PutPost ρ i wb l lim e (be 1 v) w) := by
  have H := hid h
  clear h
  go_enter Tryd.func43, Tryd.ntmps43
  go_wp2_with (go_at_call 64; refine (wnumber_any ρ i wb l lim e v 1 w H.out (by omega) (by omega)).mono ?_; rintro en w1 ⟨rfl, hW, hF⟩)
  go_end0
  exact ⟨rfl, hW, hF⟩
theorem wU16_any (ρ : Nat → Nat) (i wb : Nat) (l : List Int) (lim e v : Int) (w : World) (h : IsW ρ i w wb l lim e) (hv0 : 0 ≤ v) (hv1 : v ≤ 65535) :
    Calls Tryd.prog 44 #[.pointer (some ⟨wb, 0, none⟩), .int .u16 v] w (PutPost ρ i wb l lim e (be 2 v) w) := by
  have H := hid h
  clear h
  go_enter Tryd.func44, Tryd.ntmps44
  go_wp2_with (go_at_call 64; refine (wnumber_any ρ i wb l lim e v 2 w H.out (by omega) (by omega)).mono ?_; rintro en w1 ⟨rfl, hW, hF⟩)
  go_end0
  exact ⟨rfl, hW, hF⟩
/-- what is read still reads where a frame leaves its block -/
theorem Rb.fr {ρ : Nat → Nat} {i j : Nat} {w w' : World} {v : Value} {l : List Int} (h : Rb w v l) (hf : FrO ρ i w w') (hl : l ≠ [] → Lab ρ j v) (hij : j ≠ i) : Rb w' v l :=
  h.move fun hn b hb hlt => hf.block b hlt (by rw [hl hn b hb]; exact hij)

theorem wblock_grown' {w w2 : World} {wb : Nat} {cs : Array Value} {v : Value} {n : Nat} {xs : List Value} (h6 : w.heap[wb]? = some (.cells cs 91 (0, 0))) (h7 : w.ownsRow 0 5 1 v n xs)
    (hg : w.grownBy w2 v.ownBlock) : w2.heap[wb]? = some (.cells cs 91 (0, 0)) := by
  rw [hg.block wb (lt_of_block h6) (fun e => wrow_ne h6 h7 e.symm rfl)]
  exact h6
theorem IsW.pushed' {ρ : Nat → Nat} {i : Nat} {w w2 : World} {wb : Nat} {l m : List Int} {lim e : Int} {v v' : Value} {n : Nat}
    (h1 : ρ wb = i) (h2 : Byt l) (h3 : 0 ≤ lim) (h4 : lim ≤ 65575) (h5 : ((l ++ m).length : Int) ≤ lim) (h6 : w.heap[wb]? = some (.cells #[v, .int .i64 lim, .int .i64 e] 91 (0, 0)))
    (h7 : w.ownsRow 0 5 1 v n (bts l)) (h8 : Lab ρ i v) (hm : Byt m)
    (ho : w2.ownsRow 0 5 1 v' (n + m.length) (bts l ++ bts m)) (hg : w.grownBy w2 v.ownBlock) (hnew : ∀ g, v'.ownBlock = some g → v.ownBlock = some g ∨ w.heap.size ≤ g) :
    IsW (ext ρ w.heap.size i) i (w2.setCell ⟨wb, 0, none⟩ v') wb (l ++ m) lim e ∧ FrO ρ i w (w2.setCell ⟨wb, 0, none⟩ v') := by
  have hwb := lt_of_block h6
  have hn : n = l.length := by have := h7.1; rw [bts_length] at this; omega
  have h62 := wblock_grown' h6 h7 hg
  have hne : ∀ g, v'.ownBlock = some g → g ≠ wb := fun g hgb => wrow_ne h62 ho hgb
  refine ⟨⟨by rw [ext_old hwb]; exact h1, h2.append hm, h3, h4, h5, v', heap_store h62 v', ?_, fun g hgb => ?_⟩, ?_⟩
  · rw [bts_append, List.length_append, ← hn]
    exact own_move ho fun b hb _ => Below.heap_setCell _ _ _ _ (hne b hb)
  · rcases hnew g hgb with hv | hlt
    · rw [ext_old (own_lt h7 hv)]; exact h8 g hv
    · exact ext_new hlt
  · exact (FrO.grown hg h8).trans' (FrO.setCell h1 _)

theorem wBytes_any (ρ : Nat → Nat) (i j wb : Nat) (l m : List Int) (lim e : Int) (bv : Value) (w : World) (h : IsW ρ i w wb l lim e) (hb : Rb w bv m) (hl : m ≠ [] → Lab ρ j bv) (hij : j ≠ i) (hlen : m.length ≤ 140737488355328) :
    Calls Tryd.prog 46 #[.pointer (some ⟨wb, 0, none⟩), bv] w (PutPost ρ i wb l lim e m w) := by
  obtain ⟨i0, hi, hz0, hz1, hz2⟩ := info_parts Tryd.info5
  have HB := hid hb
  obtain ⟨_, a, cap, rfl, _⟩ := hb
  have H := hid h
  clear h
  by_cases hE : roomE l.length lim e m.length = 0
  · have HE := hid hE
    clear hE
    go_enter Tryd.func46, Tryd.ntmps46
    go_wp2_with fail
    refine (room_yes ρ i wb l lim e m.length w H.out (by omega) (by omega) HE.out).mono ?_
    rintro en w1 ⟨rfl, hW, hF, hS⟩
    obtain ⟨q1, q2, q3, q4, q5, ov, q6, q7, q8⟩ := hW
    obtain ⟨a1, cap1, rfl, hc, hm, _⟩ := own_shape q7
    obtain ⟨c0, c1, c2, f0, f1, f2⟩ := cells3 q6
    have hb1 := hid (HB.out.fr hF hl hij)
    have hfit := (roomE_ok HE.out).2
    have HF := hid hF
    have HS := hid hS
    have Q6 := hid q6
    have Q7 := hid q7
    have Q8 := hid q8
    have Q1 := hid q1
    clear q1 q6 q7 q8 hF hS
    go_wp2_with (at_builtin; refine wpList_append_bytes rfl _ _ 22 rfl 0 5 i0 _ Tryd.underlying22 hi hz0 hz1 hz2 rfl (.slice a1 l.length cap1) _ _ rfl Q7.out _ m rfl hb1.out (by omega) (Nat.zero_le _) ?_; intro a2 cap2 w2 ho hg hat; obtain ⟨d0, d1, d2, g0, g1, g2⟩ := cells3 (wblock_grown' Q6.out Q7.out hg))
    go_end0
    have hp := IsW.pushed' Q1.out q2 q3 q4 (by rw [List.length_append]; omega) Q6.out Q7.out Q8.out HB.out.byt ho hg hat
    refine ⟨rfl, ?_, HF.out.trans' hp.2⟩
    rw [if_pos HE.out, HE.out, ← HS.out]
    exact hp.1
  · have HE := hid hE
    clear hE
    go_enter Tryd.func46, Tryd.ntmps46
    go_wp2_with (go_at_call 65; refine (room_no ρ i wb l lim e m.length w H.out (by omega) (by omega) HE.out).mono ?_; rintro en w1 ⟨rfl, hW, hF, hS⟩)
    go_end0
    refine ⟨rfl, ?_, hF⟩
    rw [if_neg HE.out]
    exact hW.relab (fun k hk => ext_old (by omega))
/-! ### what only looks -/
/-! ### slices.Clone at bytes -/
/-- a copy of its own, not nil where it was not -/
def ClonePost (l : List Int) (w : World) (en : Ending) (w' : World) : Prop :=
  ∃ v, en = .returned v ∧ w'.ownsRow w.heap.size 5 1 v l.length (bts l) ∧ Below w.heap.size w w'
theorem clone_any (v : Value) (l : List Int) (w : World) (h : Rb w v l) (hl : l.length ≤ 140737488355328) :
    Calls Tryd.prog 53 #[v] w (ClonePost l w) := by
  obtain ⟨i0, hi, hz0, hz1, hz2⟩ := info_parts Tryd.info5
  have HB := hid h
  obtain ⟨_, a, cap, rfl, h1, _, h3, _⟩ := h
  cases a with
  | none =>
    have hc0 := h3 rfl
    subst hc0
    have hl0 : l = [] := List.length_eq_zero_iff.1 (by omega)
    subst hl0
    clear h1 h3 hl
    have heq := fun w : World => Lib.run_eql_slice_nil (P := Tryd.prog) w 22 5 none 0 0 0 0 Tryd.underlying22
    go_enter Tryd.func53, Tryd.ntmps53
    go_wp2
    go_ret
    exact ⟨_, rfl, World.ownsRow_nil _ _ _ _, Below.refl _ _⟩
  | some ad =>
    have heq := fun w : World => Lib.run_eql_slice_nil (P := Tryd.prog) w 22 5 (some ad) l.length cap 0 0 Tryd.underlying22
    have HO := hid (World.ownsRow_lit (base := w.heap.size) (e := 5) (size := 1) w #[] 0 (Nat.le_refl _) (Nat.zero_le _) rfl)
    have HB1 := hid (HB.out.below (w' := w.alloc (.cells #[] 5)) ((Below.refl _ _).alloc (Nat.le_refl _) _))
    clear h1 h3
    go_enter Tryd.func53, Tryd.ntmps53
    go_wp2_with (at_builtin; refine wpList_append_bytes rfl _ _ 22 rfl w.heap.size 5 i0 _ Tryd.underlying22 hi hz0 hz1 hz2 rfl (.slice (some ⟨w.heap.size, 0, none⟩) 0 0) _ _ rfl HO.out _ l rfl HB1.out (by omega) (by simp) ?_; intro a2 cap2 w2 ho hg hat)
    go_ret
    refine ⟨_, rfl, by simpa using ho, ((Below.refl _ _).alloc (Nat.le_refl _) _).grown hg (by simp) fun k hk => ?_⟩
    simp only [Value.ownBlock, Option.some.injEq] at hk
    omega
end Go.Proofs.YtaecfcaeopmiaaaDoor
