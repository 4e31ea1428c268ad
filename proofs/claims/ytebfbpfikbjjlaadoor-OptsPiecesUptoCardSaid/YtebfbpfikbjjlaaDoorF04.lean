/-
  What the rows of chapter 4 hand in: options, bytes, the table of shapes as its text lays it.
-/
import Derived.Test.YtebfbpfikbjjlaaDoorL04A
import Derived.Test.YtebfbpfikbjjlaaDoorCards
import Derived.Test.YtebfbpfikbjjlaaDoorTie
import Derived.Deep.Slices
import Derived.Deep.DeepHandedRow
import Derived.Lib.LaidTab
import Derived.JoinedCond
namespace Go.Proofs.YtebfbpfikbjjlaaDoor
open Go.ChangeShapes Go.WideShapes Go.ChangeAt Go.RowKit Go.Deep

theorem gTab : Tryd.prog.globalNamed "mosaic/opts.shapes" = some 0 := by kernel_rfl
theorem gTabType : (Tryd.prog.globals[0]?).map (·.type) = some 52 := by kernel_rfl
theorem cellsTab : Tryd.prog.cellsOf 52 = 2 := by kernel_rfl
theorem cellsInt : Tryd.prog.cellsOf 3 = 1 := by kernel_rfl
theorem tab_of {W : World} (h : laidMetH Tryd.prog Rows.optsParsesRow.laid W) : Tab W := by
  have t : Lib.TabIs Tryd.prog W "mosaic/opts.shapes" .i64 [1, 2] := Lib.tabIs_of_head (rest := []) gTab gTabType Tryd.underlying52 Tryd.underlying3 cellsInt cellsTab h
  exact ⟨t.cell gTab 0 (by decide), t.cell gTab 1 (by decide)⟩

theorem elem_cells {w : World} {base : Nat} {a : Addr} {k c : Nat} {cs' : List Value} (h : w.cells? base (a.add (k * c)) c = some cs') (hc : 0 < c) :
    cs'.length = c ∧ base ≤ a.block ∧ (k = 0 → a.spot = none) ∧ ∀ j, j < c → w.cell? ⟨a.block, a.off + k * c + j, none⟩ = cs'[j]? := by
  obtain ⟨hb, hl, hcell⟩ := World.cells?_some h
  have h0 := hcell 0 hc
  rw [List.getElem?_eq_getElem (by omega)] at h0
  have hs := World.cell?_spot h0
  have e : (a.add (k * c)).block = a.block := by unfold Addr.add; split <;> rfl
  refine ⟨hl, by rw [← e]; exact hb, fun hk => ?_, fun j hj => ?_⟩
  · subst hk
    simpa [Addr.add] using hs
  · rw [← hcell j hj]
    by_cases hk : k * c = 0
    · rw [hk] at hs ⊢
      have hs' : a.spot = none := by simpa [Addr.add] using hs
      obtain ⟨b, off, spot⟩ := a
      simp only at hs'
      subst hs'
      rw [add_plain, add_plain]
    · have e2 : a.add (k * c) = ⟨a.block, a.off + k * c, none⟩ := by simp [Addr.add, hk]
      rw [e2, add_plain]
theorem opt_cells : Tryd.prog.cellsOf 38 = 2 ∧ Tryd.prog.cellsOf 3 = 1 ∧ Tryd.prog.cellsOf 22 = 1 ∧ Tryd.prog.cellsOf 5 = 1 := ⟨by kernel_rfl, by kernel_rfl, by kernel_rfl, by kernel_rfl⟩
/-- a slice of bytes within a datum, opened -/
theorem cells_bytes {H : Type} {enc : TypeId × Value → H} {w : World} {base fuel : Nat} {spare : Nat → Bool} {held : Bool} {cs : List Value} {x : DataW H × List MemPlace}
    (h : DataW.trod enc Tryd.prog w base spare held fuel 22 cs = some x) (hsp : ∀ b, spare b = true) :
    ∃ v l, cs = [v] ∧ Rb w v l ∧ ((x.1 = .nil ∧ l = []) ∨ ∃ e s, x.1 = .slice e s ∧ l.length ≤ e.length + s.length) := by
  rcases open_ints Tryd.underlying22 Tryd.underlying5 opt_cells.2.2.2 h with ⟨rfl, rfl⟩ | ⟨a, len, cap, zs, rfl, _, hl, hm, hz, rfl, hcell, hwz⟩
  · exact ⟨_, [], rfl, Rb.nil w, Or.inl ⟨rfl, rfl⟩⟩
  · rw [hsp, if_pos rfl] at hz
    refine ⟨_, zs.take len, rfl, rb_in hl hm hz rfl hcell hwz, Or.inr ⟨_, _, rfl, ?_⟩⟩
    simp [lits]
theorem open_opts {H : Type} {enc : TypeId × Value → H} {w : World} {base fuel : Nat} {spare : Nat → Bool} {held : Bool} {v : Value} {x : DataW H × List MemPlace}
    (h : DataW.trod enc Tryd.prog w base spare held fuel 23 [v] = some x) (hsp : ∀ b, spare b = true) : ∃ hs, Ropt w v hs := by
  obtain ⟨ce, c3, c22, _⟩ := opt_cells
  rcases open_slice Tryd.underlying23 h with ⟨hcs, _⟩ | ⟨a, len, cap, m, n, D, Pl, hcs, hb, hl, hm, hmm, rfl, hx⟩
  · obtain rfl : v = .slice none 0 0 := by simpa using hcs
    exact ⟨[], none, 0, rfl, Nat.le_refl _, Nat.zero_le _, fun k y hk => by simp at hk⟩
  · obtain rfl : v = .slice (some a) len cap := by simpa using hcs
    rw [hsp, if_pos rfl] at hmm
    have each : ∀ i, i < len → ∃ y : HOpt, (i = 0 → a.spot = none) ∧ w.cell? ⟨a.block, a.off + i * 2, none⟩ = some (.int .i64 y.k) ∧ w.cell? ⟨a.block, a.off + i * 2 + 1, none⟩ = some y.v ∧ Rb w y.v y.l ∧ (Lit.int .i64 y.k).wf = true := by
      intro i hi
      obtain ⟨cs', h1, h2⟩ := hx i (by omega)
      rw [ce] at h1
      obtain ⟨hlen, _, hs, hcell⟩ := elem_cells h1 (by decide)
      obtain ⟨xs, k, _, hxy, _, hxl, hf⟩ := DataW.trod_struct Tryd.underlying38 h2
      have g0 := hf 0 _ rfl
      have g1 := hf 1 _ rfl
      match xs, hxl, cs', hlen with
      | [y0, y1], _, [v0, v1], _ =>
        simp [c3, c22] at g0 g1
        obtain ⟨z0, e0, _, w0⟩ := DataW.trod_int Tryd.underlying3 g0
        obtain ⟨u, B, e4, hB, _⟩ := cells_bytes g1 hsp
        simp only [List.cons.injEq, and_true] at e0 e4
        subst e0; subst e4
        exact ⟨⟨z0, _, B⟩, hs, hcell 0 (by decide), hcell 1 (by decide), hB, w0⟩
    obtain ⟨q, hq⟩ := choose_lt each
    refine ⟨(List.range len).map q, some a, cap, by simp, by simpa using hl, hm, fun k y hk => ?_⟩
    have hk' : k < len := by have := (List.getElem?_eq_some_iff.1 hk).1; simpa using this
    have hy : y = q k := by simp [hk'] at hk; exact hk.symm
    subst hy
    obtain ⟨_, r0, r1, r2, r3⟩ := hq k hk'
    have hs := (hq 0 (by omega)).1 rfl
    obtain ⟨b, off, spot⟩ := a
    simp only at hs
    subst hs
    exact ⟨b, off, rfl, r0, r1, r2, r3⟩

/-- a world for the witness: the settled one, the table holding what its initialiser lays -/
noncomputable def laidWorld (os : Os) : World :=
  { World.holding Tryd.prog os ⟨#[], #[], []⟩ with heap := (World.holding Tryd.prog os ⟨#[], #[], []⟩).heap.modify 0 fun
      | .cells _ t frozen => .cells #[.int .i64 1, .int .i64 2] t frozen
      | o => o }
theorem laid_met1 (os : Os) : laidMet Tryd.prog Rows.optsParsesRow.laid ((laidWorld os).forCall (fun _ _ => 0) ⟨#[], #[.slice none 0 0], []⟩).memory :=
  laidMet_of_run' 8 (by kernel_rfl) (by kernel_rfl)

end Go.Proofs.YtebfbpfikbjjlaaDoor
