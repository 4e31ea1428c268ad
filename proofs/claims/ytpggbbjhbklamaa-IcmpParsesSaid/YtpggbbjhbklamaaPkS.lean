/-
  Fields of a packet that lies in a block, stored; a packet made of its parts; a packet told as a result.
-/
import Derived.Test.YtpggbbjhbklamaaPkt
namespace Go.Proofs.Ytpggbbjhbklamaa
open Go.RowKit

theorem wpList_store_rng {P : Program} {w : World} {ops : Array Oper} {rest : List Oper} {o : Oper} {a : Act} {Q : Exit → Act → World → Prop} (hgd : o.guard = none) (ty : TypeId) (x y : Operand) (ho : o.op = .store ty x y) (hd : o.dst = none)
    (b off : Nat) (v : Value) (hx : a.eval x = .pointer (some ⟨b, off, none⟩)) (hy : a.eval y = v) (vs : List Value) (hvs : v.cells.toList = vs) (h1 : ∀ u ∈ vs, u.oneCell' = true) (t : TypeId) (cur : Array Value) (hA : w.heap[b]? = some (.cells cur t (0, 0)))
    (hi : (P.info? ty).map (·.size) = some vs.length) (hl : off + vs.length ≤ cur.size)
    (h : ∀ w2, w2.heap[b]? = some (.cells (cur.toList.take off ++ vs ++ cur.toList.drop (off + vs.length)).toArray t (0, 0)) → Stored b w w2 → wpList P ops Q rest a w2) : wpList P ops Q (o :: rest) a w := by
  refine wpList_plain hgd fun K hK => ?_
  have hrun : (storeVar ty ⟨b, off, none⟩ v).run P w = .ok () (w.setRow b (cur.toList.take off ++ vs ++ cur.toList.drop (off + vs.length)).toArray) := by
    have := run_storeCells_at (P := P) b off t vs 0 cur w hA (by simpa using hl) h1
    simp only [Nat.add_zero] at this
    cases hq : P.info? ty with
    | none => simp [hq] at hi
    | some i =>
      have hs : i.size = vs.length := by simpa [hq] using hi
      have hc : v.cells.size = vs.length := by rw [← hvs]; simp
      simp [storeVar, sizeOf, typeInfo, hq, hs, hc, hvs, this]
  unfold Oper.wp execOp
  simp only [ho, hx, hy, Instr.storeAt, Instr.sureAddr, Sem.run_bind, Sem.run_pure, Result.andThen_ok, hrun]
  have := h _ (setRow_heap w b cur _ t (0, 0) hA) (Stored.setRow w b _)
  refine hK _ _ ?_
  rw [hd]
  exact this
theorem int_info : (Try.prog.info? 3).map (·.size) = some 1 := by kernel_rfl
theorem bool_info : (Try.prog.info? 4).map (·.size) = some 1 := by kernel_rfl
theorem bytes_info : (Try.prog.info? 26).map (·.size) = some 1 := by kernel_rfl
theorem u32_info : (Try.prog.info? 25).map (·.size) = some 1 := by kernel_rfl
/-- sixteen bytes of a slice as an array: where they lie -/
theorem run_arrayAt (W : World) (x : Go.Addr) (c : Nat) : Sem.run Try.prog (Instr.arrayAt 22 (.slice (some x) 16 c)) W = .ok (.pointer (some x)) W := by
  simp [Instr.arrayAt, run_underlying Try.underlying22]
end Go.Proofs.Ytpggbbjhbklamaa
