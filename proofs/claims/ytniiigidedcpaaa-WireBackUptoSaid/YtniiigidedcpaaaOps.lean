/-
  A script of calls as the statements hand it in: what a slice of Op reads as.
-/
import Derived.Test.YtniiigidedcpaaaFrame
import Derived.Deep.Slices
namespace Go.Proofs.Ytniiigidedcpaaa
open Go.ChangeShapes Go.WideShapes Go.ChangeAt Go.RowKit Go.Deep

/-- the cells of element k of a slice whose elements have c cells -/
theorem elem_cells {w : World} {base : Nat} {a : Addr} {k c : Nat} {cs' : List Value} (h : w.cells? base (a.add (k * c)) c = some cs') (hc : 0 < c) :
    cs'.length = c ∧ base ≤ a.block ∧ (k = 0 → a.spot = none) ∧ ∀ j, j < c → w.cell? ⟨a.block, a.off + k * c + j, none⟩ = cs'[j]? := by
  obtain ⟨hb, hl, hcell⟩ := World.cells?_some h
  have h0 := hcell 0 hc
  rw [List.getElem?_eq_getElem (by omega)] at h0
  have hs := World.cell?_spot h0
  have e : (a.add (k * c)).block = a.block := by unfold Addr.add; split <;> rfl
  refine ⟨hl, by rw [← e]; exact hb, fun hk => ?_, fun j hj => ?_⟩
  · subst hk
    simpa [Addr.add] using hs
  · rw [← hcell j hj]
    by_cases hk : k * c = 0
    · rw [hk] at hs ⊢
      have hs' : a.spot = none := by simpa [Addr.add] using hs
      obtain ⟨b, off, spot⟩ := a
      simp only at hs'
      subst hs'
      rw [add_plain, add_plain]
    · have e2 : a.add (k * c) = ⟨a.block, a.off + k * c, none⟩ := by simp [Addr.add, hk]
      rw [e2, add_plain]

/-- one call of a script -/
structure Opv where
  kd : Int
  wh : Int
  n : Int
  v : Int
  bv : Value
  B : List Int
instance : Inhabited Opv := ⟨⟨0, 0, 0, 0, .slice none 0 0, []⟩⟩

/-- what is known of one call that lies at a place -/
def RopAt (w : World) (b o : Nat) (x : Opv) : Prop :=
  w.cell? ⟨b, o, none⟩ = some (.int .i64 x.kd) ∧ w.cell? ⟨b, o + 1, none⟩ = some (.int .i64 x.wh) ∧ w.cell? ⟨b, o + 2, none⟩ = some (.int .i64 x.n) ∧ w.cell? ⟨b, o + 3, none⟩ = some (.int .u32 x.v) ∧
    w.cell? ⟨b, o + 4, none⟩ = some x.bv ∧ Rb w x.bv x.B ∧ x.B.length + 2 ≤ 140737488355328 ∧ (Lit.int .i64 x.kd).wf = true ∧ (Lit.int .i64 x.wh).wf = true ∧ (Lit.int .i64 x.n).wf = true ∧ (Lit.int .u32 x.v).wf = true
/-- the slice value reads as the script -/
def Rops (w : World) (sv : Value) (ops : List Opv) : Prop :=
  ∃ a cap, sv = .slice a ops.length cap ∧ ops.length ≤ cap ∧ cap ≤ maxLen ∧ ∀ k, k < ops.length → ∃ b off, a = some ⟨b, off, none⟩ ∧ RopAt w b (off + k * 5) (ops.getD k default)
theorem RopAt.below {w w' : World} {b o : Nat} {x : Opv} (h : RopAt w b o x) (hb : Below w.heap.size w w') : RopAt w' b o x := by
  obtain ⟨h0, h1, h2, h3, h4, h5, h6⟩ := h
  have hlt := World.block_lt_of_cell? _ _ h0
  exact ⟨(hb.cell (p := ⟨b, o, none⟩) hlt).trans h0, (hb.cell (p := ⟨b, o + 1, none⟩) hlt).trans h1, (hb.cell (p := ⟨b, o + 2, none⟩) hlt).trans h2, (hb.cell (p := ⟨b, o + 3, none⟩) hlt).trans h3, (hb.cell (p := ⟨b, o + 4, none⟩) hlt).trans h4, h5.below hb, h6⟩

theorem weightsAll_mem {H : Type} {P : Program} {e : TypeId} : ∀ {l : List (DataW H)} {d : DataW H}, d ∈ l → ∀ n ∈ d.weights P e, n ∈ DataW.weightsAll P e l
  | d' :: r, d, hd, n, hn => by
    simp only [DataW.weightsAll, List.mem_append]
    rcases List.mem_cons.1 hd with rfl | h
    · exact Or.inl hn
    · exact Or.inr (weightsAll_mem h n hn)

theorem op_cells : Try.prog.cellsOf 49 = 5 ∧ Try.prog.cellsOf 3 = 1 ∧ Try.prog.cellsOf 30 = 1 ∧ Try.prog.cellsOf 22 = 1 ∧ Try.prog.cellsOf 5 = 1 ∧ Try.prog.bytesOf 5 = 1 := ⟨by kernel_rfl, by kernel_rfl, by kernel_rfl, by kernel_rfl, by kernel_rfl, by kernel_rfl⟩
/-- a slice of bytes within a datum, opened -/
theorem cells_bytes {H : Type} {enc : TypeId × Value → H} {w : World} {base fuel : Nat} {spare : Nat → Bool} {held : Bool} {cs : List Value} {x : DataW H × List MemPlace}
    (h : DataW.trod enc Try.prog w base spare held fuel 22 cs = some x) (hsp : ∀ b, spare b = true) :
    ∃ v l, cs = [v] ∧ Rb w v l ∧ ((x.1 = .nil ∧ l = []) ∨ ∃ e s, x.1 = .slice e s ∧ l.length ≤ e.length + s.length) := by
  rcases open_ints Try.underlying22 Try.underlying5 op_cells.2.2.2.2.1 h with ⟨rfl, rfl⟩ | ⟨a, len, cap, zs, rfl, _, hl, hm, hz, rfl, hcell, hwz⟩
  · exact ⟨_, [], rfl, Rb.nil w, Or.inl ⟨rfl, rfl⟩⟩
  · rw [hsp, if_pos rfl] at hz
    refine ⟨_, zs.take len, rfl, rb_in hl hm hz rfl hcell hwz, Or.inr ⟨_, _, rfl, ?_⟩⟩
    simp [lits]

/-- a slice of bytes that came in, and its bound -/
theorem sized_bytes {H : Type} {enc : TypeId × Value → H} {w : World} {base fuel : Nat} {spare : Nat → Bool} {held : Bool} {v : Value} {x : DataW H × List MemPlace}
    (h : DataW.trod enc Try.prog w base spare held fuel 22 [v] = some x) (hsp : ∀ b, spare b = true) (hwt : ∀ n ∈ x.1.weights Try.prog 22, n ≤ reachBytes) : ∃ l, Rb w v l ∧ l.length + 2 ≤ 140737488355328 := by
  obtain ⟨u, l, e, hr, hB⟩ := cells_bytes h hsp
  obtain rfl : v = u := by simpa using e
  refine ⟨l, hr, ?_⟩
  rcases hB with ⟨_, rfl⟩ | ⟨e, s, hes, hle⟩
  · show 0 + 2 ≤ _
    omega
  · have := hwt ((e.length + s.length) * Try.prog.bytesOf 5) (by rw [hes]; simp [DataW.weights, Try.underlying22])
    rw [op_cells.2.2.2.2.2] at this
    unfold reachBytes at this
    omega

theorem open_ops {H : Type} {enc : TypeId × Value → H} {w : World} {base fuel : Nat} {spare : Nat → Bool} {held : Bool} {v : Value} {x : DataW H × List MemPlace}
    (h : DataW.trod enc Try.prog w base spare held fuel 43 [v] = some x) (hsp : ∀ b, spare b = true)
    (hwt : ∀ n ∈ x.1.weights Try.prog 43, n ≤ reachBytes) : ∃ ops, Rops w v ops := by
  obtain ⟨ce, c3, c30, c22, _, by5⟩ := op_cells
  rcases open_slice Try.underlying43 h with ⟨hcs, _⟩ | ⟨a, len, cap, m, n, D, Pl, hcs, hb, hl, hm, hmm, rfl, hx⟩
  · obtain rfl : v = .slice none 0 0 := by simpa using hcs
    exact ⟨[], none, 0, rfl, Nat.le_refl _, Nat.zero_le _, fun k hk => absurd hk (Nat.not_lt_zero _)⟩
  · obtain rfl : v = .slice (some a) len cap := by simpa using hcs
    rw [hsp, if_pos rfl] at hmm
    have each : ∀ i, i < len → ∃ y : Opv, (i = 0 → a.spot = none) ∧ RopAt w a.block (a.off + i * 5) y := by
      intro i hi
      obtain ⟨cs', h1, h2⟩ := hx i (by omega)
      rw [ce] at h1
      obtain ⟨hlen, _, hs, hcell⟩ := elem_cells h1 (by decide)
      obtain ⟨xs, k, _, hxy, _, hxl, hf⟩ := DataW.trod_struct Try.underlying49 h2
      have g0 := hf 0 _ rfl
      have g1 := hf 1 _ rfl
      have g2 := hf 2 _ rfl
      have g3 := hf 3 _ rfl
      have g4 := hf 4 _ rfl
      match xs, hxl, cs', hlen with
      | [y0, y1, y2, y3, y4], _, [v0, v1, v2, v3, v4], _ =>
        simp [c3, c30, c22] at g0 g1 g2 g3 g4
        obtain ⟨z0, e0, _, w0⟩ := DataW.trod_int Try.underlying3 g0
        obtain ⟨z1, e1, _, w1⟩ := DataW.trod_int Try.underlying3 g1
        obtain ⟨z2, e2, _, w2⟩ := DataW.trod_int Try.underlying3 g2
        obtain ⟨z3, e3, _, w3⟩ := DataW.trod_int Try.underlying30 g3
        obtain ⟨u, B, e4, hB, hBl⟩ := cells_bytes g4 hsp
        simp only [List.cons.injEq, and_true] at e0 e1 e2 e3 e4
        subst e0; subst e1; subst e2; subst e3; subst e4
        have q0 := hcell 0 (by decide)
        have q1 := hcell 1 (by decide)
        have q2 := hcell 2 (by decide)
        have q3 := hcell 3 (by decide)
        have q4 := hcell 4 (by decide)
        refine ⟨⟨z0, z1, z2, z3, _, B⟩, hs, q0, q1, q2, q3, q4, hB, ?_, w0, w1, w2, w3⟩
        rcases hBl with ⟨_, rfl⟩ | ⟨e, s, hes, hle⟩
        · show 0 + 2 ≤ _
          omega
        · have hD : D i = .agg ([y0, y1, y2, y3, y4].map (·.1)) := (Prod.mk.inj hxy).1
          have hin : (e.length + s.length) * Try.prog.bytesOf 5 ∈ (D i).weights Try.prog 49 := by
            rw [hD]
            simp [DataW.weights, Try.underlying49, DataW.weightsEach, hes, Try.underlying22]
          have hr := hwt _ (by
            simp only [DataW.weights, Try.underlying43, List.mem_cons, List.mem_append]
            exact Or.inr (Or.inl (weightsAll_mem (List.mem_map.2 ⟨i, List.mem_range.2 hi, rfl⟩) _ hin)))
          rw [by5] at hr
          unfold reachBytes at hr
          show B.length + 2 ≤ _
          omega
    obtain ⟨q, hq⟩ := choose_lt each
    refine ⟨(List.range len).map q, some a, cap, by simp, by simpa using hl, hm, fun k hk => ?_⟩
    have hk' : k < len := by simpa using hk
    have hr := (hq k hk').2
    have hs := (hq 0 (by omega)).1 rfl
    obtain ⟨b, off, spot⟩ := a
    simp only at hs
    subst hs
    refine ⟨b, off, rfl, ?_⟩
    rw [show ((List.range len).map q).getD k default = q k by simp [List.getD_eq_getElem?_getD, hk']]
    exact hr

end Go.Proofs.Ytniiigidedcpaaa
