/-
  An address that came in by value, opened out of the row's reading.
-/
import Derived.Test.YtaecfcaeopmiaaaDoorAddr
import Derived.Test.YtaecfcaeopmiaaaDoorFrame
namespace Go.Proofs.YtaecfcaeopmiaaaDoor
open Go.ChangeShapes Go.WideShapes Go.ChangeAt Go.RowKit

def intU : Value → Int
  | .int _ x => x
  | _ => 0
set_option maxRecDepth 20000 in
theorem open_addr {H : Type} {enc : TypeId × Value → H} {w : World} {r : Reach} {b0 base : Nat} {spare : Nat → Bool} {held : Bool} {v : Value} {d : DataW H} {p : List MemPlace}
    (hval : Value.okWide Tryd.prog w r b0 27 v) (h : DataW.Trod enc Tryd.prog w base spare held 27 v d p) : ∃ V bs, v = addrV V bs ∧ IsA V bs := by
  obtain ⟨cs, rfl, hsz⟩ : ∃ cs, v = .agg cs ∧ cs.size = 17 := by
    simp only [Value.okWide, Tryd.underlying27] at hval
    obtain ⟨cs, rfl, h, _⟩ := hval
    exact ⟨cs, rfl, by rw [h]; kernel_rfl⟩
  obtain ⟨fuel, hf⟩ := h
  have hc1 : Tryd.prog.cellsOf 3 = 1 := by kernel_rfl
  have hc16 : Tryd.prog.cellsOf 25 = 16 := by kernel_rfl
  have hcu : Tryd.prog.cellsOf 5 = 1 := by kernel_rfl
  have hf : DataW.trod enc Tryd.prog w base spare held fuel 27 cs.toList = some (d, p) := hf
  have hll : cs.toList.length = 17 := by simpa using hsz
  obtain ⟨xs, n, rfl, _, _, hxl, hfi⟩ := DataW.trod_struct Tryd.underlying27 hf
  have hxl : xs.length = 2 := hxl
  obtain ⟨x0, x1, rfl⟩ : ∃ x0 x1, xs = [x0, x1] := by
    match xs, hxl with
    | [x0, x1], _ => exact ⟨x0, x1, rfl⟩
  have h0 : DataW.trod enc Tryd.prog w base spare held n 3 ((cs.toList.drop 0).take (Tryd.prog.cellsOf 3)) = some x0 := hfi 0 _ rfl
  have h1 : DataW.trod enc Tryd.prog w base spare held n 25 ((cs.toList.drop 1).take (Tryd.prog.cellsOf 25)) = some x1 := hfi 1 _ rfl
  rw [hc1] at h0
  rw [hc16] at h1
  generalize hcl : cs.toList = l at *
  obtain ⟨V, e0, _, wV⟩ := DataW.trod_int Tryd.underlying3 h0
  obtain ⟨ys, m, rfl, _, _, hyl, hyi⟩ := DataW.trod_array Tryd.underlying25 h1
  have each : ∀ i, i < 16 → ∃ b, l[i + 1]? = some (.int .u8 b) ∧ 0 ≤ b ∧ b ≤ 255 := by
    intro i hi
    have h := hyi i hi
    rw [hcu, List.getElem?_eq_getElem (by omega)] at h
    obtain ⟨b, e, _, wb⟩ := DataW.trod_int Tryd.underlying5 h
    refine ⟨b, ?_, bounds_u8 wb⟩
    have := congrArg (fun z : List Value => z[0]?) e
    simp [List.getElem?_take, List.getElem?_drop] at this
    exact this.2
  refine ⟨V, (l.drop 1).map intU, ?_, ?_, ?_, ?_, ?_⟩
  · unfold addrV addrC
    congr 1
    apply Array.ext'
    rw [hcl]
    apply List.ext_getElem?
    intro j
    cases j with
    | zero =>
      have := congrArg (fun z : List Value => z[0]?) e0
      simp at this
      simpa using this
    | succ j =>
      show l[j + 1]? = (bts ((l.drop 1).map intU))[j]?
      rw [bts_get, List.getElem?_map, List.getElem?_drop, Nat.add_comm 1 j]
      by_cases hj : j < 16
      · obtain ⟨b, hb, _⟩ := each j hj
        rw [hb]; rfl
      · rw [List.getElem?_eq_none (by omega)]; rfl
  · rw [List.length_map, List.length_drop]; omega
  · intro x hx
    obtain ⟨j, hj⟩ := List.mem_iff_getElem?.1 hx
    rw [List.getElem?_map, List.getElem?_drop, Nat.add_comm 1 j] at hj
    by_cases hj16 : j < 16
    · obtain ⟨b, hb, hb2⟩ := each j hj16
      rw [hb] at hj
      obtain rfl : b = x := Option.some.inj hj
      exact hb2
    · rw [List.getElem?_eq_none (by omega)] at hj; cases hj
  · exact (i64_bd wV).1
  · exact (i64_bd wV).2
end Go.Proofs.YtaecfcaeopmiaaaDoor
