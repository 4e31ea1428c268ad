/-
  A packet that came in by value, opened out of the row's reading.
-/
import Derived.Test.YtpggbbjhbklamaaOpenA
import Derived.Test.YtpggbbjhbklamaaPkt
namespace Go.Proofs.Ytpggbbjhbklamaa
open Go.ChangeShapes Go.WideShapes Go.ChangeAt Go.RowKit

theorem open_addr_c {H : Type} {enc : TypeId × Value → H} {w : World} {base fuel : Nat} {spare : Nat → Bool} {held : Bool} {l : List Value} {x : DataW H × List MemPlace}
    (hf : DataW.trod enc Try.prog w base spare held fuel 24 l = some x) (hll : l.length = 17) : ∃ V bs, l = .int .i64 V :: bts bs ∧ IsA V bs := by
  have hc1 : Try.prog.cellsOf 3 = 1 := by kernel_rfl
  have hc16 : Try.prog.cellsOf 22 = 16 := by kernel_rfl
  have hcu : Try.prog.cellsOf 5 = 1 := by kernel_rfl
  obtain ⟨xs, n, hxx, _, _, hxl, hfi⟩ := DataW.trod_struct Try.underlying24 hf
  have hxl : xs.length = 2 := hxl
  obtain ⟨x0, x1, rfl⟩ : ∃ x0 x1, xs = [x0, x1] := by
    match xs, hxl with
    | [x0, x1], _ => exact ⟨x0, x1, rfl⟩
  have h0 : DataW.trod enc Try.prog w base spare held n 3 ((l.drop 0).take (Try.prog.cellsOf 3)) = some x0 := hfi 0 _ rfl
  have h1 : DataW.trod enc Try.prog w base spare held n 22 ((l.drop 1).take (Try.prog.cellsOf 22)) = some x1 := hfi 1 _ rfl
  rw [hc1] at h0
  rw [hc16] at h1
  obtain ⟨V, e0, _, wV⟩ := DataW.trod_int Try.underlying3 h0
  obtain ⟨ys, m, rfl, _, _, hyl, hyi⟩ := DataW.trod_array Try.underlying22 h1
  have each : ∀ i, i < 16 → ∃ b, l[i + 1]? = some (.int .u8 b) ∧ 0 ≤ b ∧ b ≤ 255 := by
    intro i hi
    have h := hyi i hi
    rw [hcu, List.getElem?_eq_getElem (by omega)] at h
    obtain ⟨b, e, _, wb⟩ := DataW.trod_int Try.underlying5 h
    refine ⟨b, ?_, bounds_u8 wb⟩
    have := congrArg (fun z : List Value => z[0]?) e
    simp [List.getElem?_take, List.getElem?_drop] at this
    exact this.2
  refine ⟨V, (l.drop 1).map intU, ?_, ?_, ?_, ?_, ?_⟩
  · apply List.ext_getElem?
    intro j
    cases j with
    | zero =>
      have := congrArg (fun z : List Value => z[0]?) e0
      simp at this
      simpa using this
    | succ j =>
      show l[j + 1]? = (bts ((l.drop 1).map intU))[j]?
      rw [bts_get, List.getElem?_map, List.getElem?_drop, Nat.add_comm 1 j]
      by_cases hj : j < 16
      · obtain ⟨b, hb, _⟩ := each j hj
        rw [hb]; rfl
      · rw [List.getElem?_eq_none (by omega)]; rfl
  · rw [List.length_map, List.length_drop]; omega
  · intro x hx
    obtain ⟨j, hj⟩ := List.mem_iff_getElem?.1 hx
    rw [List.getElem?_map, List.getElem?_drop, Nat.add_comm 1 j] at hj
    by_cases hj16 : j < 16
    · obtain ⟨b, hb, hb2⟩ := each j hj16
      rw [hb] at hj
      obtain rfl : b = x := Option.some.inj hj
      exact hb2
    · rw [List.getElem?_eq_none (by omega)] at hj; cases hj
  · exact (i64_bd wV).1
  · exact (i64_bd wV).2
/-- a slice of bytes within a datum, opened, with the bound of the form's reach -/
theorem cells_bytesS {H : Type} {enc : TypeId × Value → H} {w : World} {base fuel : Nat} {spare : Nat → Bool} {held : Bool} {cs : List Value} {x : DataW H × List MemPlace}
    (h : DataW.trod enc Try.prog w base spare held fuel 26 cs = some x) (hsp : ∀ b, spare b = true) (hwt : ∀ n ∈ x.1.weights Try.prog 26, n ≤ reachBytes) : ∃ v l, cs = [v] ∧ Rb w v l ∧ l.length ≤ 140737488355328 ∧ v.oneCell' = true := by
  rcases open_ints Try.underlying26 Try.underlying5 (by kernel_rfl) h with ⟨rfl, _⟩ | ⟨a, len, cap, zs, rfl, _, hl, hm, hz, hx, hcell, hwz⟩
  · exact ⟨_, [], rfl, Rb.nil w, Nat.zero_le _, rfl⟩
  · rw [hsp, if_pos rfl] at hz
    refine ⟨_, zs.take len, rfl, rb_in hl hm hz rfl hcell hwz, ?_, rfl⟩
    have by5 : Try.prog.bytesOf 5 = 1 := by kernel_rfl
    rw [hx] at hwt
    have := hwt _ (by simp only [DataW.weights, Try.underlying26]; exact List.mem_cons_self ..)
    rw [by5] at this
    unfold reachBytes at this
    simp [lits] at this
    simp
    omega
theorem sized_bytesS {H : Type} {enc : TypeId × Value → H} {w : World} {base : Nat} {spare : Nat → Bool} {held : Bool} {v : Value} {d : DataW H} {p : List MemPlace}
    (h : DataW.Trod enc Try.prog w base spare held 26 v d p) (hs : ∃ a n c, v = .slice a n c) (hsp : ∀ b, spare b = true) (hwt : ∀ n ∈ d.weights Try.prog 26, n ≤ reachBytes) : ∃ l, Rb w v l ∧ l.length ≤ 140737488355328 := by
  obtain ⟨a, n, c, rfl⟩ := hs
  obtain ⟨f, hf⟩ := h
  obtain ⟨u, l, e, hr, hB, _⟩ := cells_bytesS (cs := [.slice a n c]) hf hsp hwt
  simp only [List.cons.injEq, and_true] at e
  subst e
  exact ⟨l, hr, hB⟩
end Go.Proofs.Ytpggbbjhbklamaa
