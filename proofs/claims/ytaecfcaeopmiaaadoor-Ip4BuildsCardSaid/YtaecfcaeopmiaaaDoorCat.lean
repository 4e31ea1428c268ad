/-
  'append' of bytes to a row of the call's own, with what becomes of the world in one word.
-/
import Derived.Test.YtaecfcaeopmiaaaDoorGen
namespace Go.Proofs.YtaecfcaeopmiaaaDoor
open Go.RowKit

/-- v is a row of bytes of the call's own, among the blocks from base on -/
structure OwnB (base : Nat) (w : World) (v : Value) (L : List Int) : Prop where
  own : w.ownsRow base 5 1 v L.length (bts L)
  le : base ≤ w.heap.size
theorem OwnB.nil {base : Nat} {w : World} (h : base ≤ w.heap.size) : OwnB base w (.slice none 0 0) [] := ⟨World.ownsRow_nil _ _ _ _, h⟩
theorem OwnB.alloc {base : Nat} {w : World} {v : Value} {L : List Int} (h : OwnB base w v L) (o : Obj) : OwnB base (w.alloc o) v L := ⟨h.own.alloc o, by have := h.le; simp; omega⟩
theorem OwnB.below {base : Nat} {w w' : World} {v : Value} {L : List Int} (h : OwnB base w v L) (hb : Below w.heap.size w w') : OwnB base w' v L := ⟨own_below h.own hb, Nat.le_trans h.le hb.size⟩
theorem OwnB.same {base : Nat} {w w' : World} {v : Value} {L : List Int} (h : OwnB base w v L) (hb : Same w w') : OwnB base w' v L := h.below (hb.below _)
theorem OwnB.rb {base : Nat} {w : World} {v : Value} {L : List Int} (h : OwnB base w v L) (hb : Byt L) : Rb w v L := Rb.of_own hb h.own
theorem wpList_cat {w : World} {ops : Array Oper} {rest : List Oper} {o : Oper} {a : Act} {Q : Exit → Act → World → Prop} (hgd : Region.wanted o (yielded ops a.tmps) = true) (s x : Operand)
    (ho : o.op = .call { callee := .builtin .append, args := #[s, x], argTypes := #[22, 22] }) (base : Nat) (v : Value) (L : List Int) (hs : a.eval s = v) (hO : OwnB base w v L)
    (xv : Value) (m : List Int) (hx : a.eval x = xv) (hR : Rb w xv m) (n : Nat) (hn : n = L.length + m.length) (hb : n ≤ 140737488355328)
    (h : ∀ a2 c2 w', OwnB base w' (.slice a2 n c2) (L ++ m) → Below base w w' → (∀ g, (Value.slice a2 n c2).ownBlock = some g → v.ownBlock = some g ∨ w.heap.size ≤ g) → wpList Tryd.prog ops Q rest (a.put o.dst (.slice a2 n c2)) w') :
    wpList Tryd.prog ops Q (o :: rest) a w := by
  obtain ⟨i0, hi, hz0, hz1, hz2⟩ := info_parts Tryd.info5
  subst hn
  refine wpList_append_bytesG hgd s x 22 ho base 5 i0 _ Tryd.underlying22 hi hz0 hz1 hz2 rfl v L.length (bts L) hs hO.own xv m hx hR hb hO.le fun a2 c2 w' h1 h2 h3 => ?_
  refine h a2 c2 w' ⟨by rw [bts_append, List.length_append]; exact h1, Nat.le_trans hO.le h2.size⟩ ⟨h2.os, h2.tape, h2.output, h2.size, fun k hk => h2.block k (Nat.lt_of_lt_of_le hk hO.le) fun e => ?_⟩ h3
  have := (hO.own.lt k e.symm).1
  omega
/-- bytes that were just written out -/
theorem rb_lit {w : World} {cs : Array Value} {l : List Int} {n : Nat} (hb : Byt l) (hc : cs.toList = bts l) (hn : n = l.length) (hm : n ≤ 1000) : Rb (w.alloc (.cells cs 5)) (.slice (some ⟨w.heap.size, 0, none⟩) n n) l :=
  Rb.new hb (heap_alloc_new w _) hc hn (by unfold maxLen; omega)
theorem byt_two {a b : Int} (h1 : 0 ≤ a ∧ a ≤ 255) (h2 : 0 ≤ b ∧ b ≤ 255) : Byt [a, b] := (Byt.one h1.1 h1.2).append (Byt.one h2.1 h2.2)

end Go.Proofs.YtaecfcaeopmiaaaDoor
