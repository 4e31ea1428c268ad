/-
  The document's writer of layer 2 (mosaicref02): what its block holds, and what each of its methods does to it: the same words as the program's.
-/
import Derived.Test.YtniiigidedcpaaaL02B
import Derived.Test.YtniiigidedcpaaaRegion
namespace Go.Proofs.Ytniiigidedcpaaa
open Go.RowKit

/-- block mb is the document's writer that wrote l, may write lim bytes, and has the error e -/
def IsM (ρ : Nat → Nat) (i : Nat) (w : World) (mb : Nat) (l : List Int) (lim e : Int) : Prop :=
  ρ mb = i ∧ Byt l ∧ 0 ≤ lim ∧ lim ≤ 65575 ∧ (l.length : Int) ≤ lim ∧
    ∃ ov, w.heap[mb]? = some (.cells #[.int .i64 lim, ov, .int .i64 e] 82 (0, 0)) ∧ w.ownsRow 0 5 1 ov l.length (bts l) ∧ Lab ρ i ov
theorem IsM.same {ρ : Nat → Nat} {i : Nat} {w w' : World} {wb : Nat} {l : List Int} {lim e : Int} (h : IsM ρ i w wb l lim e) (hs : Same w w') : IsM ρ i w' wb l lim e := by
  obtain ⟨h1, h2, h3, h4, h5, ov, h6, h7, h8⟩ := h
  exact ⟨h1, h2, h3, h4, h5, ov, by rw [hs.heap]; exact h6, own_same h7 hs, h8⟩
theorem IsM.other {ρ : Nat → Nat} {i j j' : Nat} {w w' : World} {wb : Nat} {l : List Int} {lim e : Int} (h : IsM ρ i w wb l lim e) (hf : FrO ρ j w w') (hij : i ≠ j) : IsM (ext ρ w.heap.size j') i w' wb l lim e := by
  obtain ⟨h1, h2, h3, h4, h5, ov, h6, h7, h8⟩ := h
  have hw := lt_of_block h6
  refine ⟨by rw [ext_old hw]; exact h1, h2, h3, h4, h5, ov, ?_, own_move h7 fun b hb hlt => hf.block b hlt (by rw [h8 b hb]; exact hij), fun b hb => ?_⟩
  · rw [hf.block wb hw (by rw [h1]; exact hij)]; exact h6
  · rw [ext_old (own_lt h7 hb)]; exact h8 b hb
theorem IsM.keep {ρ : Nat → Nat} {i j : Nat} {w w' : World} {wb : Nat} {l : List Int} {lim e : Int} (h : IsM ρ i w wb l lim e) (hf : FrO ρ j w w') (hij : i ≠ j) : IsM ρ i w' wb l lim e := by
  obtain ⟨h1, h2, h3, h4, h5, ov, h6, h7, h8⟩ := h
  exact ⟨h1, h2, h3, h4, h5, ov, by rw [hf.block wb (lt_of_block h6) (by rw [h1]; exact hij)]; exact h6, own_move h7 fun b hb hlt => hf.block b hlt (by rw [h8 b hb]; exact hij), h8⟩
theorem IsM.below {ρ : Nat → Nat} {i : Nat} {w w' : World} {wb : Nat} {l : List Int} {lim e : Int} (h : IsM ρ i w wb l lim e) (hb : Below w.heap.size w w') : IsM ρ i w' wb l lim e := by
  obtain ⟨h1, h2, h3, h4, h5, ov, h6, h7, h8⟩ := h
  exact ⟨h1, h2, h3, h4, h5, ov, by rw [hb.block wb (lt_of_block h6)]; exact h6, own_move h7 fun b hb' hlt => hb.block b hlt, h8⟩
theorem IsM.relab {ρ ρ' : Nat → Nat} {i : Nat} {w : World} {wb : Nat} {l : List Int} {lim e : Int} (h : IsM ρ i w wb l lim e) (hl : ∀ k, k < w.heap.size → ρ' k = ρ k) : IsM ρ' i w wb l lim e := by
  obtain ⟨h1, h2, h3, h4, h5, ov, h6, h7, h8⟩ := h
  exact ⟨by rw [hl _ (lt_of_block h6)]; exact h1, h2, h3, h4, h5, ov, h6, h7, fun b hb => by rw [hl _ (own_lt h7 hb)]; exact h8 b hb⟩
theorem IsM.cast {ρ : Nat → Nat} {i : Nat} {w : World} {wb : Nat} {l l' : List Int} {lim e e' : Int} (h : IsM ρ i w wb l lim e) (hl : l = l') (he : e = e') : IsM ρ i w wb l' lim e' := by subst hl; subst he; exact h
theorem mrow_ne {w : World} {wb g : Nat} {cs : Array Value} {v : Value} {n : Nat} {xs : List Value} (h6 : w.heap[wb]? = some (.cells cs 82 (0, 0))) (h7 : w.ownsRow 0 5 1 v n xs) (hb : v.ownBlock = some g) : g ≠ wb := by
  intro e
  subst e
  rcases h7.2 with ⟨rfl, _⟩ | ⟨g', cap', cur, rfl, _, hg, _⟩
  · simp [Value.ownBlock] at hb
  · simp only [Value.ownBlock, Option.some.injEq] at hb
    subst hb
    have := hg.symm.trans h6
    simp at this
theorem mblock_grown {w w2 : World} {wb : Nat} {cs : Array Value} {v : Value} {n : Nat} {xs : List Value} (h6 : w.heap[wb]? = some (.cells cs 82 (0, 0))) (h7 : w.ownsRow 0 5 1 v n xs)
    (hg : w.grownBy w2 v.ownBlock) : w2.heap[wb]? = some (.cells cs 82 (0, 0)) := by
  rw [hg.block wb (lt_of_block h6) (fun e => mrow_ne h6 h7 e.symm rfl)]
  exact h6
theorem IsM.pushed {ρ : Nat → Nat} {i : Nat} {w w2 : World} {wb : Nat} {l m : List Int} {lim e : Int} {v v' : Value} {n : Nat}
    (h1 : ρ wb = i) (h2 : Byt l) (h3 : 0 ≤ lim) (h4 : lim ≤ 65575) (h5 : ((l ++ m).length : Int) ≤ lim) (h6 : w.heap[wb]? = some (.cells #[.int .i64 lim, v, .int .i64 e] 82 (0, 0)))
    (h7 : w.ownsRow 0 5 1 v n (bts l)) (h8 : Lab ρ i v) (hm : Byt m)
    (ho : w2.ownsRow 0 5 1 v' (n + m.length) (bts l ++ bts m)) (hg : w.grownBy w2 v.ownBlock) (hnew : ∀ g, v'.ownBlock = some g → v.ownBlock = some g ∨ w.heap.size ≤ g) :
    IsM (ext ρ w.heap.size i) i (w2.setCell ⟨wb, 1, none⟩ v') wb (l ++ m) lim e ∧ FrO ρ i w (w2.setCell ⟨wb, 1, none⟩ v') := by
  have hwb := lt_of_block h6
  have hn : n = l.length := by have := h7.1; rw [bts_length] at this; omega
  have h62 := mblock_grown h6 h7 hg
  have hne : ∀ g, v'.ownBlock = some g → g ≠ wb := fun g hgb => mrow_ne h62 ho hgb
  refine ⟨⟨by rw [ext_old hwb]; exact h1, h2.append hm, h3, h4, h5, v', heap_store h62 v', ?_, fun g hgb => ?_⟩, ?_⟩
  · rw [bts_append, List.length_append, ← hn]
    exact own_move ho fun b hb _ => Below.heap_setCell _ _ _ _ (hne b hb)
  · rcases hnew g hgb with hv | hlt
    · rw [ext_old (own_lt h7 hv)]; exact h8 g hv
    · exact ext_new hlt
  · exact (FrO.grown hg h8).trans' (FrO.setCell h1 _)
theorem IsM.err {ρ : Nat → Nat} {i : Nat} {w : World} {wb : Nat} {l : List Int} {lim e : Int} (h : IsM ρ i w wb l lim e) (e' : Int) :
    IsM (ext ρ w.heap.size i) i (w.setCell ⟨wb, 2, none⟩ (.int .i64 e')) wb l lim e' ∧ FrO ρ i w (w.setCell ⟨wb, 2, none⟩ (.int .i64 e')) := by
  obtain ⟨h1, h2, h3, h4, h5, ov, h6, h7, h8⟩ := h
  refine ⟨⟨by rw [ext_old (lt_of_block h6)]; exact h1, h2, h3, h4, h5, ov, heap_store h6 _, own_move h7 fun b hb _ => Below.heap_setCell _ _ _ _ (mrow_ne h6 h7 hb), fun b hb => ?_⟩, FrO.setCell h1 _⟩
  rw [ext_old (own_lt h7 hb)]; exact h8 b hb
theorem IsM.byte {ρ : Nat → Nat} {i : Nat} {w : World} {wb g cap : Nat} {l : List Int} {lim e : Int} (h2 : Byt l)
    (h6 : w.heap[wb]? = some (.cells #[.int .i64 lim, .slice (some ⟨g, 0, none⟩) l.length cap, .int .i64 e] 82 (0, 0)))
    (h7 : w.ownsRow 0 5 1 (.slice (some ⟨g, 0, none⟩) l.length cap) l.length (bts l)) (h8 : Lab ρ i (.slice (some ⟨g, 0, none⟩) l.length cap)) (j : Nat) (x : Int) (hx0 : 0 ≤ x) (hx1 : x ≤ 255) :
    Byt (l.set j x) ∧ (l.set j x).length = l.length ∧ (w.setCell ⟨g, j, none⟩ (.int .u8 x)).heap[wb]? = some (.cells #[.int .i64 lim, .slice (some ⟨g, 0, none⟩) l.length cap, .int .i64 e] 82 (0, 0)) ∧
      (w.setCell ⟨g, j, none⟩ (.int .u8 x)).ownsRow 0 5 1 (.slice (some ⟨g, 0, none⟩) l.length cap) l.length (bts (l.set j x)) ∧ FrO ρ i w (w.setCell ⟨g, j, none⟩ (.int .u8 x)) := by
  refine ⟨h2.set j hx0 hx1, List.length_set, ?_, ?_, FrO.setCell (h8 g rfl) _⟩
  · rw [Below.heap_setCell _ _ _ _ (fun e => mrow_ne h6 h7 (g := g) rfl e.symm)]; exact h6
  · have := World.ownsRow.stored h7 j (.int .u8 x)
    rw [show bts (l.set j x) = (bts l).set j (.int .u8 x) by simp [bts, List.map_set]]
    exact this.1

def MPutPost (ρ : Nat → Nat) (i wb : Nat) (l : List Int) (lim e : Int) (m : List Int) (w : World) (en : Ending) (w' : World) : Prop :=
  en = .returned (.tuple #[]) ∧ IsM (ext ρ w.heap.size i) i w' wb (if roomE l.length lim e m.length = 0 then l ++ m else l) lim (roomE l.length lim e m.length) ∧ FrO ρ i w w'

set_option maxHeartbeats 800000 in
theorem mBytes_any (ρ : Nat → Nat) (i mb : Nat) (l m : List Int) (lim e : Int) (bv : Value) (w : World) (h : IsM ρ i w mb l lim e) (hb : Rb w bv m) (hlen : m.length ≤ 140737488355328) :
    Calls Try.prog 42 #[.pointer (some ⟨mb, 0, none⟩), bv] w (MPutPost ρ i mb l lim e m w) := by
  obtain ⟨i0, hi, hz0, hz1, hz2⟩ := info_parts Try.info5
  have HB := hid hb
  obtain ⟨_, a, cap, rfl, hmc, _⟩ := hb
  have H := hid h
  obtain ⟨q1, q2, q3, q4, q5, ov, q6, q7, q8⟩ := h
  obtain ⟨a1, cap1, rfl, hc, hm, _⟩ := own_shape q7
  obtain ⟨c0, c1, c2, f0, f1, f2⟩ := cells3 q6
  have Q6 := hid q6
  have Q7 := hid q7
  have Q8 := hid q8
  have Q1 := hid q1
  clear q1 q6 q7 q8
  by_cases he : e = 0
  · subst he
    by_cases hr : lim - l.length < m.length
    · have hE : roomE l.length lim 0 m.length = 3 := by simp [roomE, hr]
      have HE := hid hE
      clear hE
      go_enter Try.func42, Try.ntmps42
      go_wp2_with fail
      go_quiet (fail)
      go_wp2
      go_end0
      refine ⟨rfl, ?_, ((Same.drewN w nq).fr ρ i).trans' (H.out.same (Same.drewN w nq) |>.err 3).2⟩
      rw [HE.out, if_neg (by decide)]
      exact ((H.out.same (Same.drewN w nq)).err 3).1
    · have hE : roomE l.length lim 0 m.length = 0 := by simp [roomE, hr]
      have HE := hid hE
      have hd : decide (lim - (l.length : Int) < m.length) = false := by simpa using hr
      clear hE
      go_enter Try.func42, Try.ntmps42
      go_wp2_with fail
      go_quiet (fail)
      go_wp2_with (at_builtin; refine wpList_append_bytes rfl _ _ 22 rfl 0 5 i0 _ Try.underlying22 hi hz0 hz1 hz2 rfl (.slice a1 l.length cap1) _ _ rfl Q7.out _ m rfl HB.out (by omega) (Nat.zero_le _) ?_; intro a2 cap2 w2 ho hg hat; obtain ⟨d0, d1, d2, g0, g1, g2⟩ := cells3 (mblock_grown (w := w.drewN _) Q6.out Q7.out hg))
      go_end0
      have hp := IsM.pushed Q1.out q2 q3 q4 (by rw [List.length_append]; omega) (w := w.drewN nq) Q6.out Q7.out Q8.out HB.out.byt ho hg hat
      refine ⟨rfl, ?_, ((Same.drewN w nq).fr ρ i).trans' hp.2⟩
      rw [if_pos HE.out, HE.out]
      exact hp.1
  · have he' : (e != 0) = true := by simpa using he
    have hE : roomE l.length lim e m.length = e := by simp [roomE, he]
    have HE := hid hE
    have HN := hid he
    clear hE he
    go_enter Try.func42, Try.ntmps42
    go_wp2
    go_end0
    refine ⟨rfl, ?_, FrO.refl _ _ _⟩
    rw [HE.out, if_neg HN.out]
    exact H.out.relab fun k hk => ext_old hk

/-! ### Number -/
theorem made_bytes (n : Nat) : (madeCells (Value.int .u8 0).cells (n * 1)).toList = bts (List.replicate n 0) := by
  simp only [madeCells, Nat.mul_one, Array.toList_map, Array.toList_range]
  simp [Value.cells, bts, List.map_const', Nat.mod_one]
def MNumRel (v : Int) (n : Nat) (w0 : World) (t7 t1 : Value) (wr : World) : Prop :=
  ∃ k j : Nat, k + j = n ∧ t7 = .int .i64 ((k : Int) - 1) ∧ t1 = .int .u64 (v / 256 ^ j) ∧ wr.ownsRow w0.heap.size 5 1 (.slice (some ⟨w0.heap.size, 0, none⟩) n n) n (bts (List.replicate k 0 ++ be j v)) ∧ Below w0.heap.size w0 wr
theorem rep_set (k j : Nat) (v : Int) : (List.replicate (k + 1) 0 ++ be j v).set k (v / 256 ^ j % 256) = List.replicate k 0 ++ be (j + 1) v := by
  rw [List.set_append_left _ _ (by simp)]
  rw [List.replicate_succ', List.set_append_right _ _ (by simp)]
  simp [be]

set_option maxHeartbeats 800000 in
theorem mNumber_any (ρ : Nat → Nat) (i mb : Nat) (l : List Int) (lim e v : Int) (n : Nat) (w : World) (h : IsM ρ i w mb l lim e) (hn1 : n ≤ 4) (hv0 : 0 ≤ v) (hv1 : v ≤ 18446744073709551615) :
    Calls Try.prog 41 #[.pointer (some ⟨mb, 0, none⟩), .int .u64 v, .int .i64 n] w (MPutPost ρ i mb l lim e (be n v) w) := by
  obtain ⟨i0, hi, hz0, hz1, hz2⟩ := info_parts Try.info5
  have H := hid h
  clear h
  go_enter Try.func41, Try.ntmps41
  go_wp2_with (refine wpList_make_full w rfl _ _ 22 rfl w.heap.size 5 i0 _ 1 Try.underlying22 hi hz0 hz1 .i64 .i64 n n n rfl rfl rfl rfl (by rw [hz2]; omega) (by unfold maxLen; omega) (Nat.le_refl _) ?_; intro w1 hown hgr)
  have HO := hid hown
  have HG := hid hgr
  clear hown hgr
  go_loopw [7, 1] (MNumRel v n w) (fun t _ _ => (intOf t + 1).toNat)
  case atStart =>
    refine ⟨n, 0, rfl, rfl, by simp, ?_, (Below.refl _ _).grown HG.out (Nat.le_refl _) (by simp)⟩
    have := HO.out
    rw [made_bytes] at this
    simpa [be] using this
  case round =>
    obtain ⟨k, j, hkj, rfl, rfl, hown, hbl⟩ := hrel
    have HB := hid hbl
    have HO := hid hown
    clear hbl hown
    cases k with
    | zero =>
      obtain rfl : j = n := by omega
      have HR := hid (Rb.of_own (l := be j v) (be_byt _ _) (by have := HO.out; simpa using this))
      have hsz := HB.out.size
      go_wp2_with fail
      refine (mBytes_any (ext ρ w.heap.size i) i mb l (be j v) lim e _ wr ((H.out.relab (fun k hk => ext_old hk)).below HB.out) (by have := HR.out; exact this) (by rw [be_length]; omega)).mono ?_
      rintro en w2 ⟨rfl, hM, hF⟩
      have HM := hid hM
      have HF := hid hF
      clear hM hF
      go_wp2
      go_end0
      have hM := HM.out
      have hF := HF.out
      rw [ext_ext hsz] at hM
      exact ⟨rfl, hM, (FrO.of_below HB.out).trans hF⟩
    | succ m =>
      rw [show (((m + 1 : Nat) : Int) - 1) = (m : Int) from by omega]
      have hm3 : (m : Int) ≤ 3 := by omega
      have hm0 : (0 : Int) ≤ m := by omega
      have hmn : (m : Int) < n := by omega
      have hp : (0 : Int) < 256 ^ j := Int.pow_pos (by decide)
      have hx0 : 0 ≤ v / 256 ^ j := Int.ediv_nonneg hv0 (by omega)
      have hx1 : v / 256 ^ j ≤ 18446744073709551615 := by
        have := Int.ediv_le_self (256 ^ j) hv0
        omega
      have hq : v / 256 ^ j / 256 = v / 256 ^ (j + 1) := by rw [Int.ediv_ediv_of_nonneg (by omega)]; rw [Int.pow_succ]
      have k0 := (World.ownsRow.cellAt HO.out m (by omega)).trans (bts_some (show m < (List.replicate (m + 1) 0 ++ be j v).length by simp; omega))
      have z0 := World.ownsRow.frozenAt HO.out m
      have HQ := hid hq
      clear hq
      have hw8 : IntKind.u8.wrap (v / 256 ^ j % 256) = v / 256 ^ j % 256 := by
        show (v / 256 ^ j % 256) % 256 = _
        omega
      generalize hX : v / 256 ^ j = X at *
      have HX := hid hX
      clear hX hp
      go_wp2
      go_roundw
      case rel =>
        refine ⟨m, j + 1, by omega, by go_num, by rw [← HQ.out], ?_, ?_⟩
        · have := (World.ownsRow.stored HO.out m (.int .u8 (X % 256))).1
          rw [show (bts (List.replicate (m + 1) 0 ++ be j v)).set m (.int .u8 (X % 256)) = bts ((List.replicate (m + 1) 0 ++ be j v).set m (X % 256)) by simp [bts, List.map_set], ← HX.out, rep_set] at this
          rw [← HX.out]
          exact this
        · exact HB.out.setCell (Nat.le_refl _) _
      case measure => (simp [intOf]) <;> omega

end Go.Proofs.Ytniiigidedcpaaa
