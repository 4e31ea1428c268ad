/-
  Fields of a packet that lies in a block, stored; a packet made of its parts; a packet told as a result.
-/
import Derived.Test.YtaecfcaeopmiaaaDoorPkt
namespace Go.Proofs.YtaecfcaeopmiaaaDoor
open Go.RowKit

theorem wpList_store_rng {P : Program} {w : World} {ops : Array Oper} {rest : List Oper} {o : Oper} {a : Act} {Q : Exit → Act → World → Prop} (hgd : o.guard = none) (ty : TypeId) (x y : Operand) (ho : o.op = .store ty x y) (hd : o.dst = none)
    (b off : Nat) (v : Value) (hx : a.eval x = .pointer (some ⟨b, off, none⟩)) (hy : a.eval y = v) (vs : List Value) (hvs : v.cells.toList = vs) (h1 : ∀ u ∈ vs, u.oneCell' = true) (t : TypeId) (cur : Array Value) (hA : w.heap[b]? = some (.cells cur t (0, 0)))
    (hi : (P.info? ty).map (·.size) = some vs.length) (hl : off + vs.length ≤ cur.size)
    (h : ∀ w2, w2.heap[b]? = some (.cells (cur.toList.take off ++ vs ++ cur.toList.drop (off + vs.length)).toArray t (0, 0)) → Stored b w w2 → wpList P ops Q rest a w2) : wpList P ops Q (o :: rest) a w := by
  refine wpList_plain hgd fun K hK => ?_
  have hrun : (storeVar ty ⟨b, off, none⟩ v).run P w = .ok () (w.setRow b (cur.toList.take off ++ vs ++ cur.toList.drop (off + vs.length)).toArray) := by
    have := run_storeCells_at (P := P) b off t vs 0 cur w hA (by simpa using hl) h1
    simp only [Nat.add_zero] at this
    cases hq : P.info? ty with
    | none => simp [hq] at hi
    | some i =>
      have hs : i.size = vs.length := by simpa [hq] using hi
      have hc : v.cells.size = vs.length := by rw [← hvs]; simp
      simp [storeVar, sizeOf, typeInfo, hq, hs, hc, hvs, this]
  unfold Oper.wp execOp
  simp only [ho, hx, hy, Instr.storeAt, Instr.sureAddr, Sem.run_bind, Sem.run_pure, Result.andThen_ok, hrun]
  have := h _ (setRow_heap w b cur _ t (0, 0) hA) (Stored.setRow w b _)
  refine hK _ _ ?_
  rw [hd]
  exact this
theorem int_info : (Tryd.prog.info? 3).map (·.size) = some 1 := by kernel_rfl
theorem bool_info : (Tryd.prog.info? 4).map (·.size) = some 1 := by kernel_rfl
theorem bytes_info : (Tryd.prog.info? 22).map (·.size) = some 1 := by kernel_rfl
theorem u32_info : (Tryd.prog.info? 28).map (·.size) = some 1 := by kernel_rfl
section
variable {w : World} {ops : Array Oper} {rest : List Oper} {o : Oper} {a : Act} {Q : Exit → Act → World → Prop}
theorem pkL_put {p p' : Pk} {j : Nat} {v : Value} (hj : j < (pkL p).length) (he : (pkL p).set j v = pkL p') : (pkL p).take j ++ [v] ++ (pkL p).drop (j + 1) = pkL p' := by
  rw [← he, List.set_eq_take_append_cons_drop, if_pos hj]; simp
theorem wpList_store_pf (hgd : o.guard = none) (ty : TypeId) (x y : Operand) (ho : o.op = .store ty x y) (hd : o.dst = none) (b off : Nat) (v : Value) (hx : a.eval x = .pointer (some ⟨b, off, none⟩)) (hy : a.eval y = v) (hv : v.cells = #[v]) (h1 : v.oneCell' = true)
    (p p' : Pk) (hA : PkAt w b p) (hl1 : p.sB.length = 16) (hl2 : p.dB.length = 16) (hi : (Tryd.prog.info? ty).map (·.size) = some 1) (hoff : off < 46) (he : (pkL p).set off v = pkL p')
    (h : ∀ w2, PkAt w2 b p' → Stored b w w2 → wpList Tryd.prog ops Q rest a w2) : wpList Tryd.prog ops Q (o :: rest) a w := by
  refine wpList_store_rng hgd ty x y ho hd b off v hx hy [v] (by rw [hv]) (by simpa using h1) 30 (pkC p) hA hi (by rw [pkC_size hl1 hl2]; simp; omega) fun w2 k1 k2 => h w2 ?_ k2
  unfold PkAt pkC
  rw [k1]
  simp only [pkC, List.length_singleton]
  rw [pkL_put (by rw [pkL_len hl1 hl2]; exact hoff) he]
theorem wpList_store_Proto (hgd : o.guard = none) (x y : Operand) (ho : o.op = .store 3 x y) (hd : o.dst = none) (b : Nat) (v : Int) (hx : a.eval x = .pointer (some ⟨b, 37, none⟩)) (hy : a.eval y = .int .i64 v) (p : Pk) (hA : PkAt w b p) (hl1 : p.sB.length = 16) (hl2 : p.dB.length = 16)
    (h : ∀ w2, PkAt w2 b { p with Proto := v } → Stored b w w2 → wpList Tryd.prog ops Q rest a w2) : wpList Tryd.prog ops Q (o :: rest) a w :=
  wpList_store_pf hgd 3 x y ho hd b 37 (.int .i64 v) hx hy rfl rfl p { p with Proto := v } hA hl1 hl2 int_info (by decide) (pkL_set_tail hl1 hl2 0 _ rfl rfl) h
theorem wpList_store_TTL (hgd : o.guard = none) (x y : Operand) (ho : o.op = .store 3 x y) (hd : o.dst = none) (b : Nat) (v : Int) (hx : a.eval x = .pointer (some ⟨b, 38, none⟩)) (hy : a.eval y = .int .i64 v) (p : Pk) (hA : PkAt w b p) (hl1 : p.sB.length = 16) (hl2 : p.dB.length = 16)
    (h : ∀ w2, PkAt w2 b { p with TTL := v } → Stored b w w2 → wpList Tryd.prog ops Q rest a w2) : wpList Tryd.prog ops Q (o :: rest) a w :=
  wpList_store_pf hgd 3 x y ho hd b 38 (.int .i64 v) hx hy rfl rfl p { p with TTL := v } hA hl1 hl2 int_info (by decide) (pkL_set_tail hl1 hl2 1 _ rfl rfl) h
theorem wpList_store_ID (hgd : o.guard = none) (x y : Operand) (ho : o.op = .store 28 x y) (hd : o.dst = none) (b : Nat) (v : Int) (hx : a.eval x = .pointer (some ⟨b, 39, none⟩)) (hy : a.eval y = .int .u32 v) (p : Pk) (hA : PkAt w b p) (hl1 : p.sB.length = 16) (hl2 : p.dB.length = 16)
    (h : ∀ w2, PkAt w2 b { p with ID := v } → Stored b w w2 → wpList Tryd.prog ops Q rest a w2) : wpList Tryd.prog ops Q (o :: rest) a w :=
  wpList_store_pf hgd 28 x y ho hd b 39 (.int .u32 v) hx hy rfl rfl p { p with ID := v } hA hl1 hl2 u32_info (by decide) (pkL_set_tail hl1 hl2 2 _ rfl rfl) h
theorem wpList_store_DF (hgd : o.guard = none) (x y : Operand) (ho : o.op = .store 4 x y) (hd : o.dst = none) (b : Nat) (v : Bool) (hx : a.eval x = .pointer (some ⟨b, 40, none⟩)) (hy : a.eval y = .bool v) (p : Pk) (hA : PkAt w b p) (hl1 : p.sB.length = 16) (hl2 : p.dB.length = 16)
    (h : ∀ w2, PkAt w2 b { p with DF := v } → Stored b w w2 → wpList Tryd.prog ops Q rest a w2) : wpList Tryd.prog ops Q (o :: rest) a w :=
  wpList_store_pf hgd 4 x y ho hd b 40 (.bool v) hx hy rfl rfl p { p with DF := v } hA hl1 hl2 bool_info (by decide) (pkL_set_tail hl1 hl2 3 _ rfl rfl) h
theorem wpList_store_More (hgd : o.guard = none) (x y : Operand) (ho : o.op = .store 4 x y) (hd : o.dst = none) (b : Nat) (v : Bool) (hx : a.eval x = .pointer (some ⟨b, 41, none⟩)) (hy : a.eval y = .bool v) (p : Pk) (hA : PkAt w b p) (hl1 : p.sB.length = 16) (hl2 : p.dB.length = 16)
    (h : ∀ w2, PkAt w2 b { p with More := v } → Stored b w w2 → wpList Tryd.prog ops Q rest a w2) : wpList Tryd.prog ops Q (o :: rest) a w :=
  wpList_store_pf hgd 4 x y ho hd b 41 (.bool v) hx hy rfl rfl p { p with More := v } hA hl1 hl2 bool_info (by decide) (pkL_set_tail hl1 hl2 4 _ rfl rfl) h
theorem wpList_store_Frag (hgd : o.guard = none) (x y : Operand) (ho : o.op = .store 4 x y) (hd : o.dst = none) (b : Nat) (v : Bool) (hx : a.eval x = .pointer (some ⟨b, 42, none⟩)) (hy : a.eval y = .bool v) (p : Pk) (hA : PkAt w b p) (hl1 : p.sB.length = 16) (hl2 : p.dB.length = 16)
    (h : ∀ w2, PkAt w2 b { p with Frag := v } → Stored b w w2 → wpList Tryd.prog ops Q rest a w2) : wpList Tryd.prog ops Q (o :: rest) a w :=
  wpList_store_pf hgd 4 x y ho hd b 42 (.bool v) hx hy rfl rfl p { p with Frag := v } hA hl1 hl2 bool_info (by decide) (pkL_set_tail hl1 hl2 5 _ rfl rfl) h
theorem wpList_store_Off (hgd : o.guard = none) (x y : Operand) (ho : o.op = .store 3 x y) (hd : o.dst = none) (b : Nat) (v : Int) (hx : a.eval x = .pointer (some ⟨b, 43, none⟩)) (hy : a.eval y = .int .i64 v) (p : Pk) (hA : PkAt w b p) (hl1 : p.sB.length = 16) (hl2 : p.dB.length = 16)
    (h : ∀ w2, PkAt w2 b { p with Off := v } → Stored b w w2 → wpList Tryd.prog ops Q rest a w2) : wpList Tryd.prog ops Q (o :: rest) a w :=
  wpList_store_pf hgd 3 x y ho hd b 43 (.int .i64 v) hx hy rfl rfl p { p with Off := v } hA hl1 hl2 int_info (by decide) (pkL_set_tail hl1 hl2 6 _ rfl rfl) h
theorem wpList_store_ov (hgd : o.guard = none) (x y : Operand) (ho : o.op = .store 22 x y) (hd : o.dst = none) (b : Nat) (s : Option Go.Addr) (n c : Nat) (hx : a.eval x = .pointer (some ⟨b, 44, none⟩)) (hy : a.eval y = .slice s n c) (p : Pk) (hA : PkAt w b p) (hl1 : p.sB.length = 16) (hl2 : p.dB.length = 16)
    (h : ∀ w2, PkAt w2 b { p with ov := .slice s n c } → Stored b w w2 → wpList Tryd.prog ops Q rest a w2) : wpList Tryd.prog ops Q (o :: rest) a w :=
  wpList_store_pf hgd 22 x y ho hd b 44 (.slice s n c) hx hy rfl rfl p { p with ov := .slice s n c } hA hl1 hl2 bytes_info (by decide) (pkL_set_tail hl1 hl2 7 _ rfl rfl) h
theorem wpList_store_xv (hgd : o.guard = none) (x y : Operand) (ho : o.op = .store 22 x y) (hd : o.dst = none) (b : Nat) (s : Option Go.Addr) (n c : Nat) (hx : a.eval x = .pointer (some ⟨b, 45, none⟩)) (hy : a.eval y = .slice s n c) (p : Pk) (hA : PkAt w b p) (hl1 : p.sB.length = 16) (hl2 : p.dB.length = 16)
    (h : ∀ w2, PkAt w2 b { p with xv := .slice s n c } → Stored b w w2 → wpList Tryd.prog ops Q rest a w2) : wpList Tryd.prog ops Q (o :: rest) a w :=
  wpList_store_pf hgd 22 x y ho hd b 45 (.slice s n c) hx hy rfl rfl p { p with xv := .slice s n c } hA hl1 hl2 bytes_info (by decide) (pkL_set_tail hl1 hl2 8 _ rfl rfl) h
theorem wpList_store_V (hgd : o.guard = none) (x y : Operand) (ho : o.op = .store 3 x y) (hd : o.dst = none) (b : Nat) (v : Int) (hx : a.eval x = .pointer (some ⟨b, 0, none⟩)) (hy : a.eval y = .int .i64 v) (p : Pk) (hA : PkAt w b p) (hl1 : p.sB.length = 16) (hl2 : p.dB.length = 16)
    (h : ∀ w2, PkAt w2 b { p with V := v } → Stored b w w2 → wpList Tryd.prog ops Q rest a w2) : wpList Tryd.prog ops Q (o :: rest) a w :=
  wpList_store_pf hgd 3 x y ho hd b 0 (.int .i64 v) hx hy rfl rfl p { p with V := v } hA hl1 hl2 int_info (by decide) rfl h
theorem wpList_store_TOS (hgd : o.guard = none) (x y : Operand) (ho : o.op = .store 3 x y) (hd : o.dst = none) (b : Nat) (v : Int) (hx : a.eval x = .pointer (some ⟨b, 1, none⟩)) (hy : a.eval y = .int .i64 v) (p : Pk) (hA : PkAt w b p) (hl1 : p.sB.length = 16) (hl2 : p.dB.length = 16)
    (h : ∀ w2, PkAt w2 b { p with TOS := v } → Stored b w w2 → wpList Tryd.prog ops Q rest a w2) : wpList Tryd.prog ops Q (o :: rest) a w :=
  wpList_store_pf hgd 3 x y ho hd b 1 (.int .i64 v) hx hy rfl rfl p { p with TOS := v } hA hl1 hl2 int_info (by decide) rfl h
theorem wpList_store_Flow (hgd : o.guard = none) (x y : Operand) (ho : o.op = .store 3 x y) (hd : o.dst = none) (b : Nat) (v : Int) (hx : a.eval x = .pointer (some ⟨b, 2, none⟩)) (hy : a.eval y = .int .i64 v) (p : Pk) (hA : PkAt w b p) (hl1 : p.sB.length = 16) (hl2 : p.dB.length = 16)
    (h : ∀ w2, PkAt w2 b { p with Flow := v } → Stored b w w2 → wpList Tryd.prog ops Q rest a w2) : wpList Tryd.prog ops Q (o :: rest) a w :=
  wpList_store_pf hgd 3 x y ho hd b 2 (.int .i64 v) hx hy rfl rfl p { p with Flow := v } hA hl1 hl2 int_info (by decide) rfl h
theorem pkL_src_put {p : Pk} {V : Int} {bs : List Int} (h1 : p.sB.length = 16) (_ : bs.length = 16) : (pkL p).take 3 ++ (.int .i64 V :: bts bs) ++ (pkL p).drop 20 = pkL { p with sV := V, sB := bs } := by
  unfold pkL
  have e : (Value.int .i64 p.sV :: bts p.sB).length = 17 := by simp [bts_length, h1]
  simp only [List.take_succ_cons, List.take_zero, List.drop_succ_cons]
  rw [List.drop_append_of_le_length (by omega), List.drop_of_length_le (by omega)]
  simp
theorem pkL_dst_put {p : Pk} {V : Int} {bs : List Int} (h1 : p.sB.length = 16) (h2 : p.dB.length = 16) (_ : bs.length = 16) : (pkL p).take 20 ++ (.int .i64 V :: bts bs) ++ (pkL p).drop 37 = pkL { p with dV := V, dB := bs } := by
  unfold pkL
  have e : (Value.int .i64 p.sV :: bts p.sB).length = 17 := by simp [bts_length, h1]
  have e2 : (Value.int .i64 p.dV :: bts p.dB).length = 17 := by simp [bts_length, h2]
  simp only [List.take_succ_cons, List.drop_succ_cons]
  rw [List.take_append, List.take_of_length_le (by omega), e, List.take_zero, List.drop_append, List.drop_of_length_le (by omega), e, List.nil_append, List.drop_append_of_le_length (by omega), List.drop_of_length_le (by omega)]
  simp
theorem wpList_store_src (hgd : o.guard = none) (x y : Operand) (ho : o.op = .store 27 x y) (hd : o.dst = none) (b : Nat) (V : Int) (bs : List Int) (hx : a.eval x = .pointer (some ⟨b, 3, none⟩)) (hy : a.eval y = .agg (addrC V bs)) (hb : bs.length = 16) (p : Pk) (hA : PkAt w b p) (hl1 : p.sB.length = 16) (hl2 : p.dB.length = 16)
    (h : ∀ w2, PkAt w2 b { p with sV := V, sB := bs } → Stored b w w2 → wpList Tryd.prog ops Q rest a w2) : wpList Tryd.prog ops Q (o :: rest) a w := by
  have hn : (Value.int .i64 V :: bts bs).length = 17 := by simp [bts_length, hb]
  refine wpList_store_rng hgd 27 x y ho hd b 3 _ hx hy (.int .i64 V :: bts bs) rfl (fun u hu => by rcases List.mem_cons.1 hu with rfl | hu; rfl; exact bts_one bs u hu) 30 (pkC p) hA (by rw [addr_info, hn]) (by rw [pkC_size hl1 hl2, hn]; decide) fun w2 k1 k2 => h w2 ?_ k2
  unfold PkAt pkC
  rw [k1, hn]
  simp only [pkC]
  rw [pkL_src_put hl1 hb]
theorem wpList_store_dst (hgd : o.guard = none) (x y : Operand) (ho : o.op = .store 27 x y) (hd : o.dst = none) (b : Nat) (V : Int) (bs : List Int) (hx : a.eval x = .pointer (some ⟨b, 20, none⟩)) (hy : a.eval y = .agg (addrC V bs)) (hb : bs.length = 16) (p : Pk) (hA : PkAt w b p) (hl1 : p.sB.length = 16) (hl2 : p.dB.length = 16)
    (h : ∀ w2, PkAt w2 b { p with dV := V, dB := bs } → Stored b w w2 → wpList Tryd.prog ops Q rest a w2) : wpList Tryd.prog ops Q (o :: rest) a w := by
  have hn : (Value.int .i64 V :: bts bs).length = 17 := by simp [bts_length, hb]
  refine wpList_store_rng hgd 27 x y ho hd b 20 _ hx hy (.int .i64 V :: bts bs) rfl (fun u hu => by rcases List.mem_cons.1 hu with rfl | hu; rfl; exact bts_one bs u hu) 30 (pkC p) hA (by rw [addr_info, hn]) (by rw [pkC_size hl1 hl2, hn]; decide) fun w2 k1 k2 => h w2 ?_ k2
  unfold PkAt pkC
  rw [k1, hn]
  simp only [pkC]
  rw [pkL_dst_put hl1 hl2 hb]
end
/-- the packet of noughts -/
def zB : List Int := List.replicate 16 0
def pk0 : Pk := ⟨0, 0, 0, 0, zB, 0, zB, 0, 0, 0, false, false, false, 0, .slice none 0 0, .slice none 0 0⟩
theorem zB_is (V : Int) (h0 : -9223372036854775808 ≤ V) (h1 : V ≤ 9223372036854775807) : IsA V zB := ⟨rfl, (by intro x hx; simp [zB] at hx; omega), h0, h1⟩
theorem pk0_is : IsPk pk0 := ⟨zB_is 0 (by decide) (by decide), zB_is 0 (by decide) (by decide), by decide, by decide, rfl, rfl⟩
/-- the end of a call that tells a packet that lies in a block, and a number -/
theorem post_pk {fn : Func} {R : Ending → World → Prop} {a : Act} {w : World} {p u : Tmp} (h : fn.results = #[.cell p 30, .tmp u]) (hd : a.defers = []) (b : Nat) (q : Pk) (e : Value) (hp : a.tmps.getD p undef = .pointer (some ⟨b, 0, none⟩)) (he : a.tmps.getD u undef = e) (hA : PkAt w b q) (h1 : q.sB.length = 16) (h2 : q.dB.length = 16)
    (hR : R (.returned (.tuple #[.agg (pkC q), e])) w) : bodyPost Tryd.prog fn R .ret a w :=
  bodyPost_ret (by
    rw [results_cell_tmp h]
    simp only [hp, asAddr, Sem.run_pure, Result.andThen_ok, run_loadVar_row w b 30 30 (pkC q) (0, 0) _ hA Tryd.underlying30 rfl (by rw [packet_info, pkC_size h1 h2]), he]) hd hR
theorem post_pk1 {fn : Func} {R : Ending → World → Prop} {a : Act} {w : World} {p : Tmp} (h : fn.results = #[.cell p 30]) (hd : a.defers = []) (b : Nat) (q : Pk) (hp : a.tmps.getD p undef = .pointer (some ⟨b, 0, none⟩)) (hA : PkAt w b q) (h1 : q.sB.length = 16) (h2 : q.dB.length = 16)
    (hR : R (.returned (.agg (pkC q))) w) : bodyPost Tryd.prog fn R .ret a w :=
  bodyPost_ret (results_cell_row h a.tmps w b 30 (pkC q) (0, 0) _ hp hA Tryd.underlying30 rfl (by rw [packet_info, pkC_size h1 h2])) hd hR
theorem PkAt.lt {w : World} {b : Nat} {p : Pk} (h : PkAt w b p) : b < w.heap.size := (Array.getElem?_eq_some_iff.1 h).1
/-- sixteen bytes of a slice as an array: where they lie -/
theorem run_arrayAt (W : World) (x : Go.Addr) (c : Nat) : Sem.run Tryd.prog (Instr.arrayAt 25 (.slice (some x) 16 c)) W = .ok (.pointer (some x)) W := by
  simp [Instr.arrayAt, run_underlying Tryd.underlying25]
end Go.Proofs.YtaecfcaeopmiaaaDoor
