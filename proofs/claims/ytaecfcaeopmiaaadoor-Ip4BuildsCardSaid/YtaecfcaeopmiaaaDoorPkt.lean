/-
  api.Packet in memory.
-/
import Derived.Test.YtaecfcaeopmiaaaDoorBlk
namespace Go.Proofs.YtaecfcaeopmiaaaDoor
open Go.RowKit

/-- a packet as a value: its fields, the two lists as slice values -/
structure Pk where
  V : Int
  TOS : Int
  Flow : Int
  sV : Int
  sB : List Int
  dV : Int
  dB : List Int
  Proto : Int
  TTL : Int
  ID : Int
  DF : Bool
  More : Bool
  Frag : Bool
  Off : Int
  ov : Value
  xv : Value
/-- its cells -/
def pkL (p : Pk) : List Value :=
  .int .i64 p.V :: .int .i64 p.TOS :: .int .i64 p.Flow :: ((.int .i64 p.sV :: bts p.sB) ++ ((.int .i64 p.dV :: bts p.dB) ++
    [.int .i64 p.Proto, .int .i64 p.TTL, .int .u32 p.ID, .bool p.DF, .bool p.More, .bool p.Frag, .int .i64 p.Off, p.ov, p.xv]))
def pkC (p : Pk) : Array Value := (pkL p).toArray
/-- the shape of a packet that comes in -/
structure IsPk (p : Pk) : Prop where
  src : IsA p.sV p.sB
  dst : IsA p.dV p.dB
  id0 : 0 ≤ p.ID
  id1 : p.ID ≤ 4294967295
  o1 : p.ov.oneCell' = true
  x1 : p.xv.oneCell' = true
theorem pkL_len {p : Pk} (h1 : p.sB.length = 16) (h2 : p.dB.length = 16) : (pkL p).length = 46 := by simp [pkL, bts_length, h1, h2]
theorem pkC_size {p : Pk} (h1 : p.sB.length = 16) (h2 : p.dB.length = 16) : (pkC p).size = 46 := by simp [pkC, pkL_len h1 h2]
theorem pkL_src {p : Pk} {j : Nat} (h1 : p.sB.length = 16) (hj : j < 16) : (pkL p)[4 + j]? = some (.int .u8 (gt p.sB j)) := by
  unfold pkL
  rw [show 4 + j = (j + 1) + 1 + 1 + 1 by omega]
  simp only [List.getElem?_cons_succ]
  rw [List.getElem?_append_left (by simp [bts_length, h1]; omega), List.getElem?_cons_succ]
  exact bts_some (by omega)
theorem pkL_rest {p : Pk} (h1 : p.sB.length = 16) (j : Nat) : (pkL p)[20 + j]? = ((.int .i64 p.dV :: bts p.dB) ++ [.int .i64 p.Proto, .int .i64 p.TTL, .int .u32 p.ID, .bool p.DF, .bool p.More, .bool p.Frag, .int .i64 p.Off, p.ov, p.xv])[j]? := by
  unfold pkL
  rw [show 20 + j = (17 + j) + 1 + 1 + 1 by omega]
  simp only [List.getElem?_cons_succ]
  have e : (Value.int .i64 p.sV :: bts p.sB).length = 17 := by simp [bts_length, h1]
  rw [List.getElem?_append_right (by omega), e]
  congr 1
  omega
theorem pkL_dst {p : Pk} {j : Nat} (h1 : p.sB.length = 16) (h2 : p.dB.length = 16) (hj : j < 16) : (pkL p)[21 + j]? = some (.int .u8 (gt p.dB j)) := by
  rw [show 21 + j = 20 + (j + 1) by omega, pkL_rest h1, List.getElem?_append_left (by simp [bts_length, h2]; omega), List.getElem?_cons_succ]
  exact bts_some (by omega)
theorem pkL_tail {p : Pk} (h1 : p.sB.length = 16) (h2 : p.dB.length = 16) (j : Nat) : (pkL p)[37 + j]? = ([.int .i64 p.Proto, .int .i64 p.TTL, .int .u32 p.ID, .bool p.DF, .bool p.More, .bool p.Frag, .int .i64 p.Off, p.ov, p.xv] : List Value)[j]? := by
  have e : (Value.int .i64 p.dV :: bts p.dB).length = 17 := by simp [bts_length, h2]
  rw [show 37 + j = 20 + (17 + j) by omega, pkL_rest h1, List.getElem?_append_right (by omega), e]
  congr 1
  omega
/-- a block that holds a packet -/
def PkAt (w : World) (b : Nat) (p : Pk) : Prop := w.heap[b]? = some (.cells (pkC p) 30 (0, 0))
theorem PkAt.cell {w : World} {b : Nat} {p : Pk} (h : PkAt w b p) (j : Nat) : w.cell? ⟨b, j, none⟩ = (pkL p)[j]? := by
  unfold PkAt at h; simp only [World.cell?, h, pkC, List.getElem?_toArray]; rfl
theorem PkAt.frz {w : World} {b : Nat} {p : Pk} (h : PkAt w b p) (j : Nat) : w.frozen? ⟨b, j, none⟩ = false := by
  unfold PkAt at h; simp [World.frozen?, h]
/-- the cells that are no bytes -/
structure PkCells (w : World) (b : Nat) (p : Pk) : Prop where
  c0 : w.cell? ⟨b, 0, none⟩ = some (.int .i64 p.V)
  c1 : w.cell? ⟨b, 1, none⟩ = some (.int .i64 p.TOS)
  c2 : w.cell? ⟨b, 2, none⟩ = some (.int .i64 p.Flow)
  c3 : w.cell? ⟨b, 3, none⟩ = some (.int .i64 p.sV)
  c20 : w.cell? ⟨b, 20, none⟩ = some (.int .i64 p.dV)
  c37 : w.cell? ⟨b, 37, none⟩ = some (.int .i64 p.Proto)
  c38 : w.cell? ⟨b, 38, none⟩ = some (.int .i64 p.TTL)
  c39 : w.cell? ⟨b, 39, none⟩ = some (.int .u32 p.ID)
  c40 : w.cell? ⟨b, 40, none⟩ = some (.bool p.DF)
  c41 : w.cell? ⟨b, 41, none⟩ = some (.bool p.More)
  c42 : w.cell? ⟨b, 42, none⟩ = some (.bool p.Frag)
  c43 : w.cell? ⟨b, 43, none⟩ = some (.int .i64 p.Off)
  c44 : w.cell? ⟨b, 44, none⟩ = some p.ov
  c45 : w.cell? ⟨b, 45, none⟩ = some p.xv
theorem PkAt.cells {w : World} {b : Nat} {p : Pk} (h : PkAt w b p) (h1 : p.sB.length = 16) (h2 : p.dB.length = 16) : PkCells w b p :=
  ⟨h.cell 0, h.cell 1, h.cell 2, h.cell 3, (h.cell 20).trans (pkL_rest h1 0), (h.cell 37).trans (pkL_tail h1 h2 0), (h.cell 38).trans (pkL_tail h1 h2 1), (h.cell 39).trans (pkL_tail h1 h2 2), (h.cell 40).trans (pkL_tail h1 h2 3),
    (h.cell 41).trans (pkL_tail h1 h2 4), (h.cell 42).trans (pkL_tail h1 h2 5), (h.cell 43).trans (pkL_tail h1 h2 6), (h.cell 44).trans (pkL_tail h1 h2 7), (h.cell 45).trans (pkL_tail h1 h2 8)⟩
theorem PkAt.src {w : World} {b : Nat} {p : Pk} (h : PkAt w b p) (h1 : p.sB.length = 16) {j : Nat} (hj : j < 16) : w.cell? ⟨b, 4 + j, none⟩ = some (.int .u8 (gt p.sB j)) := (h.cell _).trans (pkL_src h1 hj)
theorem PkAt.dst {w : World} {b : Nat} {p : Pk} (h : PkAt w b p) (h1 : p.sB.length = 16) (h2 : p.dB.length = 16) {j : Nat} (hj : j < 16) : w.cell? ⟨b, 21 + j, none⟩ = some (.int .u8 (gt p.dB j)) := (h.cell _).trans (pkL_dst h1 h2 hj)
theorem packet_info : (Tryd.prog.info? 30).map (·.size) = some 46 := by kernel_rfl
theorem pkC_one {p : Pk} (h1 : p.ov.oneCell' = true) (h2 : p.xv.oneCell' = true) : (pkC p).all (·.oneCell') = true := all_oneCell_toArray (by
  intro v hv
  unfold pkL at hv
  simp only [List.mem_cons, List.mem_append, List.not_mem_nil, or_false] at hv
  rcases hv with rfl | rfl | rfl | (rfl | hv) | (rfl | hv) | rfl | rfl | rfl | rfl | rfl | rfl | rfl | rfl | rfl
  all_goals first | rfl | exact bts_one _ _ hv | exact h1 | exact h2)
section
variable {w : World} {ops : Array Oper} {rest : List Oper} {o : Oper} {a : Act} {Q : Exit → Act → World → Prop}
/-- a whole packet, loaded -/
theorem wpList_load_pk (hgd : Region.wanted o (yielded ops a.tmps) = true) (x : Operand) (ho : o.op = .load 30 x) (b : Nat) (p : Pk) (hx : a.eval x = .pointer (some ⟨b, 0, none⟩)) (hA : PkAt w b p) (h1 : p.sB.length = 16) (h2 : p.dB.length = 16)
    (h : wpList Tryd.prog ops Q rest (a.put o.dst (.agg (pkC p))) w) : wpList Tryd.prog ops Q (o :: rest) a w :=
  wpList_load_blk hgd 30 x ho b hx _ _ _ hA _ Tryd.underlying30 rfl (by rw [packet_info, pkC_size h1 h2]) h
/-- its source, loaded by itself -/
theorem wpList_load_src (hgd : Region.wanted o (yielded ops a.tmps) = true) (x : Operand) (ho : o.op = .load 27 x) (b : Nat) (p : Pk) (hx : a.eval x = .pointer (some ⟨b, 3, none⟩)) (hA : PkAt w b p) (h1 : p.sB.length = 16)
    (h : wpList Tryd.prog ops Q rest (a.put o.dst (.agg (addrC p.sV p.sB))) w) : wpList Tryd.prog ops Q (o :: rest) a w := by
  refine wpList_step fun K hK => ?_
  rw [if_pos hgd]
  refine wp_load_mid 27 x ho b 3 hx (.int .i64 p.sV :: bts p.sB) _ (fun j v hv => ?_) Tryd.underlying27 rfl (by rw [addr_info]; simp [bts_length, h1]) (hK _ _ h)
  have hj : j < 17 := by have := (List.getElem?_eq_some_iff.1 hv).1; simpa [bts_length, h1] using this
  cases j with
  | zero => rw [hA.cell]; exact hv
  | succ j =>
    rw [List.getElem?_cons_succ] at hv
    rw [show 3 + (j + 1) = 4 + j by omega, hA.src h1 (by omega), ← hv, bts_some (by omega)]
theorem wpList_load_dst (hgd : Region.wanted o (yielded ops a.tmps) = true) (x : Operand) (ho : o.op = .load 27 x) (b : Nat) (p : Pk) (hx : a.eval x = .pointer (some ⟨b, 20, none⟩)) (hA : PkAt w b p) (h1 : p.sB.length = 16) (h2 : p.dB.length = 16)
    (h : wpList Tryd.prog ops Q rest (a.put o.dst (.agg (addrC p.dV p.dB))) w) : wpList Tryd.prog ops Q (o :: rest) a w := by
  refine wpList_step fun K hK => ?_
  rw [if_pos hgd]
  refine wp_load_mid 27 x ho b 20 hx (.int .i64 p.dV :: bts p.dB) _ (fun j v hv => ?_) Tryd.underlying27 rfl (by rw [addr_info]; simp [bts_length, h2]) (hK _ _ h)
  have hj : j < 17 := by have := (List.getElem?_eq_some_iff.1 hv).1; simpa [bts_length, h2] using this
  cases j with
  | zero => rw [hA.cell, pkL_rest h1]; exact hv
  | succ j =>
    rw [List.getElem?_cons_succ] at hv
    rw [show 20 + (j + 1) = 21 + j by omega, hA.dst h1 h2 (by omega), ← hv, bts_some (by omega)]
/-- a whole packet, stored -/
theorem wpList_store_pk (hgd : o.guard = none) (x y : Operand) (ho : o.op = .store 30 x y) (hd : o.dst = none) (b : Nat) (p p0 : Pk) (hx : a.eval x = .pointer (some ⟨b, 0, none⟩)) (hy : a.eval y = .agg (pkC p)) (hA : PkAt w b p0)
    (h1 : p.sB.length = 16) (h2 : p.dB.length = 16) (h3 : p0.sB.length = 16) (h4 : p0.dB.length = 16) (h5 : p.ov.oneCell' = true) (h6 : p.xv.oneCell' = true)
    (h : ∀ w2, PkAt w2 b p → Stored b w w2 → wpList Tryd.prog ops Q rest a w2) : wpList Tryd.prog ops Q (o :: rest) a w :=
  wpList_store_blk hgd 30 x y ho hd b (pkC p) hx hy 30 (pkC p0) hA (by rw [packet_info, pkC_size h1 h2]) (by rw [pkC_size h1 h2, pkC_size h3 h4]) (pkC_one h5 h6) h
end
/-- the bytes of the source and of the destination, as slices -/
theorem pk_src_rb {w : World} {b : Nat} {p : Pk} (h : PkAt w b p) (hA : IsA p.sV p.sB) {n : Nat} (hn : n ≤ 16) : Rb w (.slice (some ⟨b, 4, none⟩) n 16) (p.sB.take n) := by
  have hl := hA.len
  have hlt : (p.sB.take n).length = n := by simp; omega
  refine ⟨hA.byt.take n, _, 16, by rw [hlt], by omega, by unfold maxLen; omega, (fun e => by cases e), fun j hj => ⟨b, 4, rfl, ?_⟩⟩
  rw [hlt] at hj
  rw [h.src hl (by omega)]
  congr 2
  simp only [gt, List.getD_eq_getElem?_getD, List.getElem?_take, if_pos hj]
theorem pk_dst_rb {w : World} {b : Nat} {p : Pk} (h : PkAt w b p) (hl1 : p.sB.length = 16) (hA : IsA p.dV p.dB) {n : Nat} (hn : n ≤ 16) : Rb w (.slice (some ⟨b, 21, none⟩) n 16) (p.dB.take n) := by
  have hl := hA.len
  have hlt : (p.dB.take n).length = n := by simp; omega
  refine ⟨hA.byt.take n, _, 16, by rw [hlt], by omega, by unfold maxLen; omega, (fun e => by cases e), fun j hj => ⟨b, 21, rfl, ?_⟩⟩
  rw [hlt] at hj
  rw [h.dst hl1 hl (by omega)]
  congr 2
  simp only [gt, List.getD_eq_getElem?_getD, List.getElem?_take, if_pos hj]
/-- one cell of a packet stored anew -/
theorem PkAt.set {w : World} {b : Nat} {p p' : Pk} (h : PkAt w b p) (j : Nat) (x : Value) (he : (pkL p).set j x = pkL p') : PkAt (w.setCell ⟨b, j, none⟩ x) b p' := by
  have := heap_store (o := j) h x
  unfold PkAt
  rw [this]
  unfold pkC
  rw [List.setIfInBounds_toArray, he]
theorem pkL_set_tail {p p' : Pk} (h1 : p.sB.length = 16) (h2 : p.dB.length = 16) (j : Nat) (x : Value) (hp : (p'.V, p'.TOS, p'.Flow, p'.sV, p'.sB, p'.dV, p'.dB) = (p.V, p.TOS, p.Flow, p.sV, p.sB, p.dV, p.dB))
    (ht : ([.int .i64 p.Proto, .int .i64 p.TTL, .int .u32 p.ID, .bool p.DF, .bool p.More, .bool p.Frag, .int .i64 p.Off, p.ov, p.xv] : List Value).set j x = [.int .i64 p'.Proto, .int .i64 p'.TTL, .int .u32 p'.ID, .bool p'.DF, .bool p'.More, .bool p'.Frag, .int .i64 p'.Off, p'.ov, p'.xv]) : (pkL p).set (37 + j) x = pkL p' := by
  simp only [Prod.mk.injEq] at hp
  obtain ⟨e1, e2, e3, e4, e5, e6, e7⟩ := hp
  unfold pkL
  rw [e1, e2, e3, e4, e5, e6, e7, ← ht]
  have l1 : (Value.int .i64 p.sV :: bts p.sB).length = 17 := by simp [bts_length, h1]
  have l2 : (Value.int .i64 p.dV :: bts p.dB).length = 17 := by simp [bts_length, h2]
  rw [show 37 + j = (34 + j) + 1 + 1 + 1 by omega]
  simp only [List.set_cons_succ]
  rw [List.set_append_right _ _ (by omega), l1, show 34 + j - 17 = 17 + j by omega, List.set_append_right _ _ (by omega), l2, show 17 + j - 17 = j by omega]
theorem wpD_load_pk {ops : Array Oper} {S : World → Prop} {Q : Exit → Act → World → Prop} {o : Oper} {l : List (Oper × Bool)} {a : Act} {w : World} (hg : Region.wanted o (yielded ops a.tmps) = true) (x : Operand) (ho : o.op = .load 30 x)
    (b : Nat) (p : Pk) (hx : a.eval x = .pointer (some ⟨b, 0, none⟩)) (hS : ∀ w', S w' → PkAt w' b p) (h1 : p.sB.length = 16) (h2 : p.dB.length = 16) (h : wpD Tryd.prog ops S Q l (a.put o.dst (.agg (pkC p))) w) : wpD Tryd.prog ops S Q ((o, false) :: l) a w :=
  wpD_weak hg ⟨_, fun w' hw => by
    unfold execOp
    simp only [ho, hx, Instr.loadAt, Instr.sureAddr, Sem.run_bind, Sem.run_pure, Result.andThen_ok, run_loadVar_row w' b 30 30 (pkC p) (0, 0) _ (hS w' hw) Tryd.underlying30 rfl (by rw [packet_info, pkC_size h1 h2])], h⟩
/-- a packet as an argument: what its lists read as -/
structure Pin (w : World) (p : Pk) (os xs : List Int) : Prop where
  pk : IsPk p
  oR : Rb w p.ov os
  xR : Rb w p.xv xs
theorem Pin.below {w w' : World} {p : Pk} {os xs : List Int} (h : Pin w p os xs) (hb : Below w.heap.size w w') : Pin w' p os xs := ⟨h.pk, h.oR.below hb, h.xR.below hb⟩
end Go.Proofs.YtaecfcaeopmiaaaDoor
