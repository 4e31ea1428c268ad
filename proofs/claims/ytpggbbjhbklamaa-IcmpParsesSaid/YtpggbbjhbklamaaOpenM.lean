/-
  A message that came in by value, opened out of the row's reading.
-/
import Derived.Test.YtpggbbjhbklamaaOpenP
import Derived.Test.YtpggbbjhbklamaaIcB
namespace Go.Proofs.Ytpggbbjhbklamaa
open Go.ChangeShapes Go.WideShapes Go.ChangeAt Go.RowKit

theorem open_msg {H : Type} {enc : TypeId × Value → H} {w : World} {r : Reach} {b0 base : Nat} {spare : Nat → Bool} {held : Bool} {v : Value} {d : DataW H} {p : List MemPlace}
    (hval : Value.okWide Try.prog w r b0 28 v) (h : DataW.Trod enc Try.prog w base spare held 28 v d p) (hsp : ∀ b, spare b = true) (hwt : ∀ n ∈ d.weights Try.prog 28, n ≤ reachBytes) :
    ∃ V T C R bv l, v = .agg (msgC V T C R bv) ∧ Rb w bv l ∧ l.length ≤ 140737488355328 ∧ (0 ≤ R ∧ R ≤ 4294967295) := by
  obtain ⟨cs, rfl, hsz⟩ : ∃ cs, v = .agg cs ∧ cs.size = 5 := by
    simp only [Value.okWide, Try.underlying28] at hval
    obtain ⟨cs, rfl, h, _⟩ := hval
    exact ⟨cs, rfl, by rw [h]; kernel_rfl⟩
  obtain ⟨fuel, hf⟩ := h
  have hc1 : Try.prog.cellsOf 3 = 1 := by kernel_rfl
  have hc2 : Try.prog.cellsOf 25 = 1 := by kernel_rfl
  have hc3 : Try.prog.cellsOf 26 = 1 := by kernel_rfl
  have hf : DataW.trod enc Try.prog w base spare held fuel 28 cs.toList = some (d, p) := hf
  obtain ⟨c0, c1, c2, c3, c4, hl⟩ : ∃ c0 c1 c2 c3 c4, cs.toList = [c0, c1, c2, c3, c4] := by
    match hcl : cs.toList, (show cs.toList.length = 5 by simpa using hsz) with
    | [a, b, c, d, e], _ => exact ⟨a, b, c, d, e, rfl⟩
  obtain ⟨xs, n, _, hxx, _, hxl, hfi⟩ := DataW.trod_struct Try.underlying28 hf
  have hxl : xs.length = 5 := hxl
  obtain ⟨x0, x1, x2, x3, x4, rfl⟩ : ∃ x0 x1 x2 x3 x4, xs = [x0, x1, x2, x3, x4] := by
    match xs, hxl with
    | [x0, x1, x2, x3, x4], _ => exact ⟨x0, x1, x2, x3, x4, rfl⟩
  have h0 : DataW.trod enc Try.prog w base spare held n 3 ((cs.toList.drop 0).take (Try.prog.cellsOf 3)) = some x0 := hfi 0 _ rfl
  have h1 : DataW.trod enc Try.prog w base spare held n 3 ((cs.toList.drop 1).take (Try.prog.cellsOf 3)) = some x1 := hfi 1 _ rfl
  have h2 : DataW.trod enc Try.prog w base spare held n 3 ((cs.toList.drop 2).take (Try.prog.cellsOf 3)) = some x2 := hfi 2 _ rfl
  have h3 : DataW.trod enc Try.prog w base spare held n 25 ((cs.toList.drop 3).take (Try.prog.cellsOf 25)) = some x3 := hfi 3 _ rfl
  have h4 : DataW.trod enc Try.prog w base spare held n 26 ((cs.toList.drop 4).take (Try.prog.cellsOf 26)) = some x4 := hfi 4 _ rfl
  rw [hc1, hl] at h0 h1 h2
  rw [hc2, hl] at h3
  rw [hc3, hl] at h4
  simp only [List.drop_succ_cons, List.drop_zero, List.take_succ_cons, List.take_zero] at h0 h1 h2 h3 h4
  obtain ⟨V, e0, _, w0⟩ := DataW.trod_int Try.underlying3 h0
  obtain ⟨T, e1, _, w1⟩ := DataW.trod_int Try.underlying3 h1
  obtain ⟨C, e2, _, w2⟩ := DataW.trod_int Try.underlying3 h2
  obtain ⟨R, e3, _, w3⟩ := DataW.trod_int Try.underlying25 h3
  have hd : d = .agg ([x0, x1, x2, x3, x4].map (·.1)) := (Prod.mk.inj hxx).1
  obtain ⟨bv, l, e4, hR, hB, _⟩ := cells_bytesS h4 hsp (fun m hm => hwt m (by
    rw [hd]
    simp only [DataW.weights, Try.underlying28]
    exact DataW.weights_mem_each (j := 4) (t := 26) (d := x4.1) rfl rfl m hm))
  simp only [List.cons.injEq, and_true] at e0 e1 e2 e3 e4
  subst e0 e1 e2 e3 e4
  refine ⟨V, T, C, R, c4, l, ?_, hR, hB, bounds_u32 w3⟩
  congr 1
  apply Array.ext'
  rw [hl]
  rfl
end Go.Proofs.Ytpggbbjhbklamaa
