/-
  Words for walks in which one list of arms serves all ways: boxes at a call's beginning, owned rows beside stores, appends in a drawn region, a result that lies in a block.
-/
import Derived.Test.YtaecfcaeopmiaaaDoorCat
import Derived.Test.YtaecfcaeopmiaaaDoorAddr
import Derived.Test.YtaecfcaeopmiaaaDoorRegion
namespace Go.Proofs.YtaecfcaeopmiaaaDoor
open Go.RowKit

theorem blk_bel {w w' : World} {b : Nat} {o : Obj} (h : w.heap[b]? = some o) (hb : Below w.heap.size w w') : w'.heap[b]? = some o := (hb.block b (by have := (Array.getElem?_eq_some_iff.1 h).1; exact this)).trans h
theorem bx1 (w : World) (o : Obj) : (w.alloc o).heap[w.heap.size]? = some o ∧ Below w.heap.size w (w.alloc o) ∧ (w.alloc o).heap.size = w.heap.size + 1 :=
  ⟨heap_alloc_new w o, bel_alloc w o, by simp⟩
theorem bx2 (w : World) (o o2 : Obj) : ((w.alloc o).alloc o2).heap[w.heap.size]? = some o ∧ ((w.alloc o).alloc o2).heap[w.heap.size + 1]? = some o2 ∧ Below w.heap.size w ((w.alloc o).alloc o2) ∧ ((w.alloc o).alloc o2).heap.size = w.heap.size + 2 := by
  obtain ⟨h1, h2, h3⟩ := bx1 w o
  refine ⟨blk_bel h1 (bel_alloc _ _), ?_, h2.trans ((bel_alloc _ _).mono (by omega)), by simp⟩
  have := heap_alloc_new (w.alloc o) o2
  rwa [h3] at this
theorem bx3 (w : World) (o o2 o3 : Obj) : (((w.alloc o).alloc o2).alloc o3).heap[w.heap.size]? = some o ∧ (((w.alloc o).alloc o2).alloc o3).heap[w.heap.size + 1]? = some o2 ∧ (((w.alloc o).alloc o2).alloc o3).heap[w.heap.size + 2]? = some o3 ∧
    Below w.heap.size w (((w.alloc o).alloc o2).alloc o3) ∧ (((w.alloc o).alloc o2).alloc o3).heap.size = w.heap.size + 3 := by
  obtain ⟨h1, h2, h3, h4⟩ := bx2 w o o2
  refine ⟨blk_bel h1 (bel_alloc _ _), blk_bel h2 (bel_alloc _ _), ?_, h3.trans ((bel_alloc _ _).mono (by omega)), by simp⟩
  have := heap_alloc_new ((w.alloc o).alloc o2) o3
  rwa [h4] at this
theorem bx4 (w : World) (o o2 o3 o4 : Obj) : ((((w.alloc o).alloc o2).alloc o3).alloc o4).heap[w.heap.size]? = some o ∧ ((((w.alloc o).alloc o2).alloc o3).alloc o4).heap[w.heap.size + 1]? = some o2 ∧ ((((w.alloc o).alloc o2).alloc o3).alloc o4).heap[w.heap.size + 2]? = some o3 ∧
    ((((w.alloc o).alloc o2).alloc o3).alloc o4).heap[w.heap.size + 3]? = some o4 ∧ Below w.heap.size w ((((w.alloc o).alloc o2).alloc o3).alloc o4) ∧ ((((w.alloc o).alloc o2).alloc o3).alloc o4).heap.size = w.heap.size + 4 := by
  obtain ⟨h1, h2, h3, h4, h5⟩ := bx3 w o o2 o3
  refine ⟨blk_bel h1 (bel_alloc _ _), blk_bel h2 (bel_alloc _ _), blk_bel h3 (bel_alloc _ _), ?_, h4.trans ((bel_alloc _ _).mono (by omega)), by simp⟩
  have := heap_alloc_new (((w.alloc o).alloc o2).alloc o3) o4
  rwa [h5] at this
theorem OwnB.set {base : Nat} {w : World} {v : Value} {L : List Int} (h : OwnB base w v L) {a : Go.Addr} (ha : a.block < base) (x : Value) : OwnB base (w.setCell a x) v L :=
  ⟨own_move h.own fun g hg _ => Below.heap_setCell _ _ _ _ (fun e => by have := (h.own.lt g hg).1; omega), by simp [World.setCell]; exact h.le⟩
theorem OwnB.mono {base base' : Nat} {w : World} {v : Value} {L : List Int} (h : OwnB base w v L) (hb : base' ≤ base) : OwnB base' w v L := ⟨own_base h.own hb, Nat.le_trans hb h.le⟩
/-- an append in a drawn region (walked by wpD) -/
theorem wpD_cat {ops : Array Oper} {S : World → Prop} {Q : Exit → Act → World → Prop} {w : World} {l : List (Oper × Bool)} {o : Oper} {a : Act} (hgd : Region.wanted o (yielded ops a.tmps) = true) (s x : Operand)
    (ho : o.op = .call { callee := .builtin .append, args := #[s, x], argTypes := #[22, 22] }) (base : Nat) (v : Value) (L : List Int) (hs : a.eval s = v) (hO : OwnB base w v L)
    (xv : Value) (m : List Int) (hx : a.eval x = xv) (hR : Rb w xv m) (n : Nat) (hn : n = L.length + m.length) (hb : n ≤ 140737488355328)
    (h : ∀ a2 c2 w', OwnB base w' (.slice a2 n c2) (L ++ m) → Below base w w' → (∀ g, (Value.slice a2 n c2).ownBlock = some g → v.ownBlock = some g ∨ w.heap.size ≤ g) → S w' ∧ wpD Tryd.prog ops S Q l (a.put o.dst (.slice a2 n c2)) w') :
    wpD Tryd.prog ops S Q ((o, true) :: l) a w := by
  obtain ⟨i0, hi, hz0, hz1, hz2⟩ := info_parts Tryd.info5
  subst hn
  refine .inl ⟨hgd, ?_⟩
  obtain ⟨a2, c2, w', hr, h1, h2, h3⟩ := run_append_bytes (P := Tryd.prog) w base 22 o.type 5 i0 _ Tryd.underlying22 hi hz0 hz1 hz2 rfl v L.length (bts L) hO.own xv m hR hb hO.le
  unfold Oper.wp execOp
  simp only [ho, resolve, invoke, builtin, Sem.run_bind, Sem.run_pure, Result.andThen_ok, List.map_toArray, List.map_cons, List.map_nil, hs, hx, hr]
  refine h a2 c2 w' ⟨by rw [bts_append, List.length_append]; exact h1, Nat.le_trans hO.le h2.size⟩ ⟨h2.os, h2.tape, h2.output, h2.size, fun k hk => h2.block k (Nat.lt_of_lt_of_le hk hO.le) fun e => ?_⟩ h3
  have := (hO.own.lt k e.symm).1
  omega
/-- loading an address that lies in a block, in a drawn region -/
theorem wpD_load_addr {ops : Array Oper} {S : World → Prop} {Q : Exit → Act → World → Prop} {o : Oper} {l : List (Oper × Bool)} {a : Act} {w : World} (hg : Region.wanted o (yielded ops a.tmps) = true) (x : Operand) (ho : o.op = .load 27 x)
    (b : Nat) (V : Int) (bs : List Int) (hx : a.eval x = .pointer (some ⟨b, 0, none⟩)) (hS : ∀ w', S w' → AddrAt w' b V bs) (hl : bs.length = 16) (h : wpD Tryd.prog ops S Q l (a.put o.dst (.agg (addrC V bs))) w) : wpD Tryd.prog ops S Q ((o, false) :: l) a w :=
  wpD_weak hg ⟨_, fun w' hw => by
    unfold execOp
    simp only [ho, hx, Instr.loadAt, Instr.sureAddr, Sem.run_bind, Sem.run_pure, Result.andThen_ok, run_loadVar_row w' b 27 27 (addrC V bs) (0, 0) _ (hS w' hw) Tryd.underlying27 rfl (by rw [addr_info]; simp [addrC, bts_length, hl])], h⟩

/-! ### comparing: both ways at once, the answer written out -/
def cmpOp : BinOp → Bool
  | .lss | .leq | .gtr | .geq | .eql | .neq => true
  | _ => false
theorem wpList_cmp {P : Program} {ops : Array Oper} {Q : Exit → Act → World → Prop} {w : World} {rest : List Oper} {o : Oper} {a : Act} (hgd : Region.wanted o (yielded ops a.tmps) = true) (c : BinOp) (_ : cmpOp c = true) (t t2 : TypeId) (x y : Operand)
    (_ : o.op = .binOp c t x y t2) (b : Bool) (hr : (execOp a.eval o).run P w = .ok (.value (.bool b)) w)
    (ht : b = true → wpList P ops Q rest (a.put o.dst (.bool true)) w) (hf : b = false → wpList P ops Q rest (a.put o.dst (.bool false)) w) : wpList P ops Q (o :: rest) a w := by
  refine wpList_step fun K hK => ?_
  rw [if_pos hgd]
  unfold Oper.wp
  rw [hr]
  refine hK _ _ ?_
  cases b
  · exact hf rfl
  · exact ht rfl
/-! ### another name for the world -/
theorem wpList_world {P : Program} {ops : Array Oper} {Q : Exit → Act → World → Prop} {w : World} {l : List Oper} {a : Act} (h : ∀ w2, w2 = w → wpList P ops Q l a w2) : wpList P ops Q l a w := h w rfl
theorem below_allocW {B : Nat} {w0 w w2 : World} {o : Obj} (hw : w2 = w.alloc o) (hB : B ≤ w0.heap.size) (h : Below B w0 w) : Below B w0 w2 := by rw [hw]; exact h.alloc (Nat.le_trans hB h.size) o
theorem blk_allocW {w w2 : World} {o : Obj} (hw : w2 = w.alloc o) : w2.heap[w.heap.size]? = some o := by rw [hw]; exact heap_alloc_new w o
theorem OwnB.lit {base : Nat} {w w2 : World} {cs : Array Value} {L : List Int} {n : Nat} (hw : w2 = w.alloc (.cells cs 5)) (hb : base ≤ w.heap.size) (hc : cs.toList = bts L) (hn : n = L.length) (hm : n ≤ 1000) : OwnB base w2 (.slice (some ⟨w.heap.size, 0, none⟩) n n) L := by
  subst hw
  have h := World.ownsRow_lit (e := 5) (size := 1) w cs n hb (by unfold maxLen; omega) (by have := congrArg List.length hc; rw [bts_length] at this; simp at this; omega)
  rw [hc, hn] at h
  rw [hn]
  exact ⟨h, by simp; omega⟩
theorem OwnB.open {base : Nat} {w : World} {v : Value} {L : List Int} (h : OwnB base w v L) (hn : 0 < L.length) : ∃ g c, v = .slice (some ⟨g, 0, none⟩) L.length c ∧ base ≤ g ∧ g < w.heap.size ∧ ∀ j, j < L.length → w.cell? ⟨g, j, none⟩ = some (.int .u8 (gt L j)) ∧ w.frozen? ⟨g, j, none⟩ = false := by
  rcases h.own.2 with ⟨rfl, h0⟩ | ⟨g, c, cur, hv, hb, hg, h1, h2, h3, h4⟩
  · omega
  · subst hv
    have ho := h.own
    exact ⟨g, c, rfl, hb, lt_of_block hg, fun j hj => ⟨by rw [ho.cellAt j (by omega), bts_some hj], ho.frozenAt j⟩⟩
theorem OwnB.put {base : Nat} {w : World} {g n c : Nat} {L : List Int} (h : OwnB base w (.slice (some ⟨g, 0, none⟩) n c) L) (j : Nat) (x : Int) : OwnB base (w.setCell ⟨g, j, none⟩ (.int .u8 x)) (.slice (some ⟨g, 0, none⟩) n c) (L.set j x) := by
  have ho := h.own
  have hn : n = L.length := by
    rcases ho.2 with ⟨h1, _⟩ | ⟨g', c', cur, hv, _⟩
    · cases h1
    · simp only [Value.slice.injEq] at hv; exact hv.2.1
  subst hn
  have := ho.stored j (.int .u8 x)
  refine ⟨?_, by simp [World.setCell]; exact h.le⟩
  rw [List.length_set, show bts (L.set j x) = (bts L).set j (.int .u8 x) by simp [bts]]
  exact this.1
end Go.Proofs.YtaecfcaeopmiaaaDoor
