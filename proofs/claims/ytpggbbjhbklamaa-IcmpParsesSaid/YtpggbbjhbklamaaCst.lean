/-
  '[]byte("..")' of a constant text: bytes that are read and never written.
-/
import Derived.Test.YtpggbbjhbklamaaSpR
import Derived.Lib.SlBytesConst
namespace Go.Proofs.Ytpggbbjhbklamaa
open Go.RowKit

/-- bytes of a constant text, in block b -/
def cstZ (b n c : Nat) (xs : List Int) : Res := .zone b (b + 1) fun W => Rb W (.slice (some ⟨b, 0, none⟩) n c) xs
theorem Sp.cst {w0 w : World} {L : List Res} (S : Sp w0 w L) (i : Nat) {b n c : Nat} {xs : List Int} (h : L[i]? = some (cstZ b n c xs)) : Rb w (.slice (some ⟨b, 0, none⟩) n c) xs := (S.all _ (List.mem_of_getElem? h)).2.1
theorem bel_alloc' (w : World) (o : Obj) : Below w.heap.size w (w.alloc o) := bel_alloc w o
theorem Sp.newCst {w0 w w2 : World} {L : List Res} {C : Array Value} {fr : Nat × Nat} {n : Nat} {xs : List Int} (S : Sp w0 w L) (hw : w2 = w.alloc (.cells C 5 fr)) (hC : C.toList = bts xs) (hb : Byt xs) (hn : n = xs.length) (hm : n ≤ 1000) : Sp w0 w2 (cstZ w.heap.size n n xs :: L) := by
  subst hw hn
  have hcell : ∀ j, j < xs.length → (w.alloc (.cells C 5 fr)).cell? ⟨w.heap.size, 0 + j, none⟩ = some (.int .u8 (gt xs j)) := fun j hj => by
    have h1 : (w.alloc (.cells C 5 fr)).heap[w.heap.size]? = some (.cells C 5 fr) := heap_alloc_new w _
    simp only [World.cell?, h1, Nat.zero_add]
    rw [← Array.getElem?_toList, hC]
    exact bts_some hj
  have hR : Rb (w.alloc (.cells C 5 fr)) (.slice (some ⟨w.heap.size, 0, none⟩) xs.length xs.length) xs :=
    ⟨hb, _, _, rfl, Nat.le_refl _, by unfold maxLen; omega, fun h => (by cases h), fun j hj => ⟨_, _, rfl, hcell j hj⟩⟩
  have M : Sp w (w.alloc (.cells C 5 fr)) [cstZ w.heap.size xs.length xs.length xs] :=
    ⟨bel_alloc' w _, fun r hr => by
      rw [List.mem_singleton.1 hr]
      refine ⟨⟨Nat.le_refl _, by rw [alloc_size]; exact Nat.le_refl _⟩, hR, fun w1 w2 hbl hz h => rb_move h fun _ b hb => ?_⟩
      simp only [Value.ownBlock, Option.some.injEq] at hb
      subst hb
      exact hbl _ (Nat.le_refl _) (Nat.lt_succ_self _), List.pairwise_singleton _ _⟩
  exact S.call M
theorem wpList_convconst {w0 w : World} {ops : Array Oper} {rest : List Oper} {o : Oper} {a : Act} {Q : Exit → Act → World → Prop} {L : List Res} {C : Array Value} (hgd : o.guard = none) (x : Operand) (ho : o.op = .convert 26 26 x) (S : Sp w0 w L) (n : Nat) (hx : a.eval x = .slice (some ⟨w.heap.size, 0, none⟩) n n)
    (xs : List Int) (hC : C.toList = bts xs) (hb : Byt xs) (hn : n = xs.length) (hm : n ≤ 1000) (h : ∀ w2, Sp w0 w2 (cstZ w.heap.size n n xs :: L) → wpList Try.prog ops Q rest (a.put o.dst (.slice (some ⟨w.heap.size, 0, none⟩) n n)) w2) :
    wpList Try.prog ops Q (o :: rest) a (w.alloc (.cells C 5)) := by
  refine wpList_step fun K hK => ?_
  rw [if_pos (by simp [Region.wanted, hgd])]
  have hrun := Go.Lib.run_convert_bytes_const (P := Try.prog) w 26 5 C n n Try.underlying26 Try.underlying5
  unfold Oper.wp execOp
  simp only [ho, hx, Sem.run_bind, hrun, Result.andThen_ok, Sem.run_pure]
  exact hK _ _ (h _ (S.newCst rfl hC hb hn hm))
end Go.Proofs.Ytpggbbjhbklamaa
