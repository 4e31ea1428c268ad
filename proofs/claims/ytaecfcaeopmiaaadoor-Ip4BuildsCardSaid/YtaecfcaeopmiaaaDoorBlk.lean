/-
  Whole structs in blocks: loaded, stored, told as a result.
-/
import Derived.Test.YtaecfcaeopmiaaaDoorAuto
import Derived.Laws.Tables
import Derived.Laws.CopyOwn
import Derived.Laws.ResultCell
import Derived.Deep.MidRow
import Derived.Great.BuildSlice
namespace Go.Proofs.YtaecfcaeopmiaaaDoor
open Go.RowKit

/-- w2 is w, but for block b -/
structure Stored (b : Nat) (w w2 : World) : Prop where
  os : w2.os = w.os
  tape : w2.tape = w.tape
  output : w2.output = w.output
  size : w2.heap.size = w.heap.size
  block : ∀ k, k ≠ b → w2.heap[k]? = w.heap[k]?
theorem Stored.below {b B : Nat} {w w2 : World} (h : Stored b w w2) (hb : B ≤ b) : Below B w w2 := ⟨h.os, h.tape, h.output, by rw [h.size]; exact Nat.le_refl _, fun k hk => h.block k (by omega)⟩
theorem Stored.trans {b : Nat} {w w2 w3 : World} (h : Stored b w w2) (k : Stored b w2 w3) : Stored b w w3 := ⟨k.os.trans h.os, k.tape.trans h.tape, k.output.trans h.output, k.size.trans h.size, fun j hj => (k.block j hj).trans (h.block j hj)⟩
theorem Stored.refl (b : Nat) (w : World) : Stored b w w := ⟨rfl, rfl, rfl, rfl, fun _ _ => rfl⟩
theorem Stored.setCell (w : World) (b i : Nat) (x : Value) : Stored b w (w.setCell ⟨b, i, none⟩ x) := ⟨rfl, rfl, rfl, by simp [World.setCell], fun k hk => Below.heap_setCell _ _ _ _ hk⟩
theorem Stored.setRow (w : World) (b : Nat) (cs : Array Value) : Stored b w (w.setRow b cs) := ⟨rfl, rfl, rfl, by simp [World.setRow], fun k hk => setRow_other w b k cs hk⟩
theorem Stored.own {b base e k n : Nat} {w w2 : World} {v : Value} {xs : List Value} (h : Stored b w w2) (hb : b < base) (ho : w.ownsRow base e k v n xs) : w2.ownsRow base e k v n xs :=
  own_move ho fun g hg _ => h.block g (by have := (ho.lt g hg).1; omega)
theorem Stored.rb {b : Nat} {w w2 : World} {v : Value} {l : List Int} (h : Stored b w w2) (hne : ∀ g, v.ownBlock = some g → g ≠ b) (hr : Rb w v l) : Rb w2 v l :=
  hr.move fun _ g hg _ => h.block g (hne g hg)
theorem wpList_load_blk {P : Program} {w : World} {ops : Array Oper} {rest : List Oper} {o : Oper} {a : Act} {Q : Exit → Act → World → Prop} (hgd : Region.wanted o (yielded ops a.tmps) = true) (ty : TypeId) (x : Operand) (ho : o.op = .load ty x)
    (b : Nat) (hx : a.eval x = .pointer (some ⟨b, 0, none⟩)) (t : TypeId) (cs : Array Value) (fr : Nat × Nat) (hA : w.heap[b]? = some (.cells cs t fr)) (d : TypeDesc) (hu : P.underlying ty = some d) (hd : (match d with | .struct _ | .array _ _ => true | _ => false) = true)
    (hi : (P.info? ty).map (·.size) = some cs.size) (h : wpList P ops Q rest (a.put o.dst (.agg cs)) w) : wpList P ops Q (o :: rest) a w := by
  refine wpList_step fun K hK => ?_
  rw [if_pos hgd]
  exact wp_load_row ty x ho b hx t cs fr d hA hu hd hi (hK _ _ h)
theorem wpList_store_blk {P : Program} {w : World} {ops : Array Oper} {rest : List Oper} {o : Oper} {a : Act} {Q : Exit → Act → World → Prop} (hgd : o.guard = none) (ty : TypeId) (x y : Operand) (ho : o.op = .store ty x y) (hd : o.dst = none)
    (b : Nat) (cells : Array Value) (hx : a.eval x = .pointer (some ⟨b, 0, none⟩)) (hy : a.eval y = .agg cells) (t : TypeId) (old : Array Value) (hA : w.heap[b]? = some (.cells old t (0, 0)))
    (hi : (P.info? ty).map (·.size) = some cells.size) (hold : old.size = cells.size) (h1 : cells.all (·.oneCell') = true)
    (h : ∀ w2, w2.heap[b]? = some (.cells cells t (0, 0)) → Stored b w w2 → wpList P ops Q rest a w2) : wpList P ops Q (o :: rest) a w :=
  wpList_store_rowTo hgd ty x y ho hd b cells hx hy t old hA hi hold h1 (h _ (setRow_heap w b old cells t (0, 0) hA) (Stored.setRow w b cells))
theorem addrC_one (V : Int) (bs : List Int) : (addrC V bs).all (·.oneCell') = true := all_oneCell_toArray (by
  intro v hv
  simp only [List.mem_cons] at hv
  rcases hv with rfl | hv
  · rfl
  · exact bts_one bs v hv)
/-- storing an address into a block that holds one -/
theorem wpList_store_addr {w : World} {ops : Array Oper} {rest : List Oper} {o : Oper} {a : Act} {Q : Exit → Act → World → Prop} (hgd : o.guard = none) (x y : Operand) (ho : o.op = .store 27 x y) (hd : o.dst = none)
    (b : Nat) (V : Int) (bs : List Int) (hx : a.eval x = .pointer (some ⟨b, 0, none⟩)) (hy : a.eval y = .agg (addrC V bs)) (V0 : Int) (bs0 : List Int) (hA : AddrAt w b V0 bs0) (hl : bs.length = 16) (hl0 : bs0.length = 16)
    (h : ∀ w2, AddrAt w2 b V bs → Stored b w w2 → wpList Tryd.prog ops Q rest a w2) : wpList Tryd.prog ops Q (o :: rest) a w :=
  wpList_store_blk hgd 27 x y ho hd b (addrC V bs) hx hy 27 (addrC V0 bs0) hA (by rw [addr_info]; simp [addrC, bts_length, hl]) (by simp [addrC, bts_length, hl, hl0]) (addrC_one V bs) h
/-- one byte of an address that lies in a block -/
theorem AddrAt.setB {w : World} {b : Nat} {V : Int} {bs : List Int} (h : AddrAt w b V bs) (j : Nat) (x : Int) : AddrAt (w.setCell ⟨b, 1 + j, none⟩ (.int .u8 x)) b V (bs.set j x) := by
  have := heap_store (o := 1 + j) h (.int .u8 x)
  unfold AddrAt
  rw [this]
  congr 2
  unfold addrC
  rw [Nat.add_comm 1 j]
  simp [bts]
theorem AddrAt.frz {w : World} {b : Nat} {V : Int} {bs : List Int} (h : AddrAt w b V bs) (j : Nat) : w.frozen? ⟨b, j, none⟩ = false := by
  unfold AddrAt at h; simp [World.frozen?, h]
/-- the end of a call whose one result is an address that lies in a block -/
theorem post_addr {fn : Func} {R : Ending → World → Prop} {a : Act} {w : World} {p : Tmp} (h : fn.results = #[.cell p 27]) (hd : a.defers = []) (b : Nat) (V : Int) (bs : List Int) (hp : a.tmps.getD p undef = .pointer (some ⟨b, 0, none⟩)) (hA : AddrAt w b V bs) (hl : bs.length = 16)
    (hR : R (.returned (.agg (addrC V bs))) w) : bodyPost Tryd.prog fn R .ret a w :=
  bodyPost_ret (results_cell_row h a.tmps w b 27 (addrC V bs) (0, 0) _ hp hA Tryd.underlying27 rfl (by rw [addr_info]; simp [addrC, bts_length, hl])) hd hR
theorem len16 {l : List Int} (h : l.length = 16) : ∃ b0 b1 b2 b3 b4 b5 b6 b7 b8 b9 b10 b11 b12 b13 b14 b15, l = [b0, b1, b2, b3, b4, b5, b6, b7, b8, b9, b10, b11, b12, b13, b14, b15] := by
  match l, h with
  | [b0, b1, b2, b3, b4, b5, b6, b7, b8, b9, b10, b11, b12, b13, b14, b15], _ => exact ⟨b0, b1, b2, b3, b4, b5, b6, b7, b8, b9, b10, b11, b12, b13, b14, b15, rfl⟩
theorem arr16_info : (Tryd.prog.info? 25).map (·.size) = some 16 := by kernel_rfl
/-- the bytes of an address, loaded by themselves -/
theorem wpList_load_b16 {w : World} {ops : Array Oper} {rest : List Oper} {o : Oper} {a : Act} {Q : Exit → Act → World → Prop} (hgd : Region.wanted o (yielded ops a.tmps) = true) (x : Operand) (ho : o.op = .load 25 x)
    (b i : Nat) (bs : List Int) (hx : a.eval x = .pointer (some ⟨b, i, none⟩)) (hA : ∀ j, j < bs.length → w.cell? ⟨b, i + j, none⟩ = some (.int .u8 (gt bs j))) (hl : bs.length = 16) (h : wpList Tryd.prog ops Q rest (a.put o.dst (.agg (bts bs).toArray)) w) : wpList Tryd.prog ops Q (o :: rest) a w := by
  refine wpList_step fun K hK => ?_
  rw [if_pos hgd]
  refine wp_load_mid 25 x ho b i hx (bts bs) _ (fun j v hv => ?_) Tryd.underlying25 rfl (by rw [arr16_info]; simp [bts_length, hl]) (hK _ _ h)
  have hj : j < bs.length := by have := (List.getElem?_eq_some_iff.1 hv).1; rwa [bts_length] at this
  rw [hA j hj, ← hv, bts_some hj]
theorem built_addr (V : Int) {bs : List Int} (hl : bs.length = 16) : Tryd.prog.built 27 [(0, .int .i64 V), (1, .agg (bts bs).toArray)] = some (addrC V bs) := by
  obtain ⟨b0, b1, b2, b3, b4, b5, b6, b7, b8, b9, b10, b11, b12, b13, b14, b15, rfl⟩ := len16 hl
  kernel_rfl
theorem wpList_build_addr {w : World} {ops : Array Oper} {rest : List Oper} {o : Oper} {a : Act} {Q : Exit → Act → World → Prop} (hgd : o.guard = none) (x y : Operand) (ho : o.op = .build 27 #[(0, x), (1, y)]) (V : Int) (bs : List Int) (hx : a.eval x = .int .i64 V) (hy : a.eval y = .agg (bts bs).toArray) (hl : bs.length = 16)
    (h : wpList Tryd.prog ops Q rest (a.put o.dst (.agg (addrC V bs))) w) : wpList Tryd.prog ops Q (o :: rest) a w :=
  wpList_buildTo hgd 27 #[(0, x), (1, y)] ho o.dst rfl (addrC V bs) (by simp only [List.map_toArray, List.map_cons, List.map_nil, hx, hy]; exact built_addr V hl) h
end Go.Proofs.YtaecfcaeopmiaaaDoor
