/-
  A script as the statement's second form hands it in: what it writes is bounded by its bulk.
-/
import Derived.Test.YtniiigidedcpaaaOps
import Derived.Test.YtniiigidedcpaaaL02K
import Derived.JoinedCond
namespace Go.Proofs.Ytniiigidedcpaaa
open Go.ChangeShapes Go.WideShapes Go.ChangeAt Go.RowKit Go.Deep

theorem bulk_one {H : Type} (d : DataW H) : 1 ≤ Rows.uptoBulk d := by
  cases d with
  | lit l => cases l <;> simp [Rows.uptoBulk]
  | nil => simp [Rows.uptoBulk]
  | ptr d => simp [Rows.uptoBulk]
  | slice elems spare => simp [Rows.uptoBulk]
  | agg parts => simp [Rows.uptoBulk]
  | iface t d => simp [Rows.uptoBulk]
  | map entries => simp [Rows.uptoBulk]
  | held h => simp [Rows.uptoBulk]
theorem bulk_len {H : Type} (l : List (DataW H)) : l.length ≤ Rows.uptoBulkAll l := by
  induction l with
  | nil => simp [Rows.uptoBulkAll]
  | cons x r ih => have := bulk_one x; simp only [Rows.uptoBulkAll, List.length_cons]; omega
theorem bulk_mem {H : Type} {d : DataW H} {l : List (DataW H)} (h : d ∈ l) : Rows.uptoBulk d ≤ Rows.uptoBulkAll l := by
  induction l with
  | nil => cases h
  | cons x r ih =>
    simp only [Rows.uptoBulkAll]
    rcases List.mem_cons.1 h with rfl | e
    · omega
    · have := ih e; omega
theorem cat_bulk {H : Type} (D : Nat → DataW H) (q : Nat → Opv) : ∀ (n : Nat), (∀ i, i < n → (opM (q i)).length ≤ Rows.uptoBulk (D i)) → (cat ((List.range n).map q)).length ≤ Rows.uptoBulkAll ((List.range n).map D)
  | 0, _ => by simp [cat]
  | n + 1, h => by
    have ih := cat_bulk D q n fun i hi => h i (by omega)
    have hn := h n (by omega)
    have ha : ∀ (l r : List (DataW H)), Rows.uptoBulkAll (l ++ r) = Rows.uptoBulkAll l + Rows.uptoBulkAll r := by
      intro l r
      induction l with
      | nil => simp [Rows.uptoBulkAll]
      | cons x l ih => simp only [List.cons_append, Rows.uptoBulkAll, ih]; omega
    rw [List.range_succ, List.map_append, List.map_append, ha]
    have e : cat ((List.range n).map q ++ [n].map q) = cat ((List.range n).map q) ++ opM (q n) := by simp [cat]
    rw [e, List.length_append]
    simp only [List.map_cons, List.map_nil, Rows.uptoBulkAll]
    omega

theorem open_ops_upto {H : Type} {enc : TypeId × Value → H} {w : World} {base fuel : Nat} {spare : Nat → Bool} {held : Bool} {v : Value} {x : DataW H × List MemPlace}
    (h : DataW.trod enc Try.prog w base spare held fuel 43 [v] = some x) (hsp : ∀ b, spare b = true)
    (hwt : Rows.uptoBulk x.1 ≤ 1048576) : ∃ ops, Rops w v ops ∧ (cat ops).length ≤ 1048576 := by
  obtain ⟨ce, c3, c30, c22, _, _⟩ := op_cells
  rcases open_slice Try.underlying43 h with ⟨hcs, _⟩ | ⟨a, len, cap, m, n, D, Pl, hcs, hb, hl, hm, hmm, rfl, hx⟩
  · obtain rfl : v = .slice none 0 0 := by simpa using hcs
    exact ⟨[], ⟨none, 0, rfl, Nat.le_refl _, Nat.zero_le _, fun k hk => absurd hk (Nat.not_lt_zero _)⟩, by simp [cat]⟩
  · obtain rfl : v = .slice (some a) len cap := by simpa using hcs
    rw [hsp, if_pos rfl] at hmm
    have each : ∀ i, i < len → ∃ y : Opv, ((i = 0 → a.spot = none) ∧ RopAt w a.block (a.off + i * 5) y) ∧ (opM y).length ≤ Rows.uptoBulk (D i) := by
      intro i hi
      obtain ⟨cs', h1, h2⟩ := hx i (by omega)
      rw [ce] at h1
      obtain ⟨hlen, _, hs, hcell⟩ := elem_cells h1 (by decide)
      obtain ⟨xs, k, _, hxy, _, hxl, hf⟩ := DataW.trod_struct Try.underlying49 h2
      have g0 := hf 0 _ rfl
      have g1 := hf 1 _ rfl
      have g2 := hf 2 _ rfl
      have g3 := hf 3 _ rfl
      have g4 := hf 4 _ rfl
      match xs, hxl, cs', hlen with
      | [y0, y1, y2, y3, y4], _, [v0, v1, v2, v3, v4], _ =>
        simp [c3, c30, c22] at g0 g1 g2 g3 g4
        obtain ⟨z0, e0, _, w0⟩ := DataW.trod_int Try.underlying3 g0
        obtain ⟨z1, e1, _, w1⟩ := DataW.trod_int Try.underlying3 g1
        obtain ⟨z2, e2, _, w2⟩ := DataW.trod_int Try.underlying3 g2
        obtain ⟨z3, e3, _, w3⟩ := DataW.trod_int Try.underlying30 g3
        obtain ⟨u, B, e4, hB, hBl⟩ := cells_bytes g4 hsp
        simp only [List.cons.injEq, and_true] at e0 e1 e2 e3 e4
        subst e0; subst e1; subst e2; subst e3; subst e4
        have q0 := hcell 0 (by decide)
        have q1 := hcell 1 (by decide)
        have q2 := hcell 2 (by decide)
        have q3 := hcell 3 (by decide)
        have q4 := hcell 4 (by decide)
        have hD : D i = .agg ([y0, y1, y2, y3, y4].map (·.1)) := (Prod.mk.inj hxy).1
        have hbD : Rows.uptoBulk (D i) ≤ 1048576 := by
          have h1 := bulk_mem (List.mem_map.2 ⟨i, List.mem_range.2 hi, rfl⟩ : D i ∈ (List.range len).map D)
          simp only [Rows.uptoBulk] at hwt
          omega
        have hBD : B.length + 5 ≤ Rows.uptoBulk (D i) := by
          rw [hD]
          simp only [Rows.uptoBulk, List.map_cons, List.map_nil, Rows.uptoBulkAll]
          have b0 := bulk_one y0.1
          have b1 := bulk_one y1.1
          have b2 := bulk_one y2.1
          have b3 := bulk_one y3.1
          have b4 := bulk_one y4.1
          rcases hBl with ⟨_, rfl⟩ | ⟨e, s, hes, hle⟩
          · simp; omega
          · rw [hes]
            have l1 := bulk_len e
            have l2 := bulk_len s
            simp only [Rows.uptoBulk]
            omega
        refine ⟨⟨z0, z1, z2, z3, _, B⟩, ⟨hs, q0, q1, q2, q3, q4, hB, ?_, w0, w1, w2, w3⟩, ?_⟩
        · show B.length + 2 ≤ _
          omega
        · show (putM z0 z3 B).length ≤ _
          rw [len_put]
          repeat' split
          all_goals omega
    obtain ⟨q, hq⟩ := choose_lt each
    have hcb := cat_bulk D q len fun i hi => (hq i hi).2
    refine ⟨(List.range len).map q, ⟨some a, cap, by simp, by simpa using hl, hm, fun k hk => ?_⟩, by
      simp only [Rows.uptoBulk] at hwt
      omega⟩
    have hk' : k < len := by simpa using hk
    have hr := (hq k hk').1.2
    have hs := (hq 0 (by omega)).1.1 rfl
    obtain ⟨b, off, spot⟩ := a
    simp only at hs
    subst hs
    refine ⟨b, off, rfl, ?_⟩
    rw [show ((List.range len).map q).getD k default = q k by simp [List.getD_eq_getElem?_getD, hk']]
    exact hr

end Go.Proofs.Ytniiigidedcpaaa
