/-
  copy: bytes that a slice reads as, into a packet's or an address's own bytes.
-/
import Derived.Test.YtaecfcaeopmiaaaDoorSp
import Derived.Laws.CopyOwn
namespace Go.Proofs.YtaecfcaeopmiaaaDoor
open Go.RowKit

theorem wpList_copy_blk {w : World} {ops : Array Oper} {rest : List Oper} {o : Oper} {a : Act} {Q : Exit → Act → World → Prop} (hgd : o.guard = none) (d s : Operand) (ho : o.op = .call { callee := .builtin .copy, args := #[d, s], argTypes := #[22, 22] })
    (g off : Nat) (cs : Array Value) (t : TypeId) (hg : w.heap[g]? = some (.cells cs t (0, 0))) (m c : Nat) (hd : a.eval d = .slice (some ⟨g, off, none⟩) m c) (v : Value) (hs : a.eval s = v) (xs : List Int) (hR : Rb w v xs) (hx : xs.length ≤ m) (hf : off + m ≤ cs.size)
    (h : ∀ w2, w2.heap[g]? = some (.cells (cs.toList.take off ++ (bts xs ++ cs.toList.drop (off + xs.length))).toArray t (0, 0)) → Stored g w w2 → wpList Tryd.prog ops Q rest (a.put o.dst (goInt xs.length)) w2) : wpList Tryd.prog ops Q (o :: rest) a w := by
  obtain ⟨i0, hi, hz0, hz1, hz2⟩ := info_parts Tryd.info5
  have hsz : (Tryd.prog.info? 5).map (·.size) = some 1 := u8_info1
  obtain ⟨sa, sc, rfl, h1, h2, h3⟩ := hR.open
  have hb : (bts xs).length = xs.length := bts_length xs
  by_cases h0 : xs.length = 0
  · obtain rfl : xs = [] := List.eq_nil_of_length_eq_zero h0
    refine wpList_copy_nothing hgd d s _ _ ho 5 Tryd.underlying22 hsz _ sa m c _ sc hd hs (by simp) ?_
    exact h w (by simpa [bts] using hg) (Stored.refl _ _)
  · obtain ⟨b, off2, rfl, hc⟩ := h3.resolve_left h0
    have := wpList_copy_own hgd d s _ _ ho 5 Tryd.underlying22 hsz g off m c ⟨b, off2, none⟩ xs.length sc hd hs cs t hg (bts xs) (by rw [hb]; exact (Nat.min_eq_left hx).symm) (fun j v hj => by
      have hlt : j < xs.length := by have := (List.getElem?_eq_some_iff.1 hj).1; omega
      rw [bts_some hlt] at hj
      obtain rfl := Option.some.inj hj
      have e : (⟨b, off2, none⟩ : Go.Addr).add j = ⟨b, off2 + j, none⟩ := by unfold Addr.add; split <;> simp_all
      rw [e]
      exact hc j hlt) (by rw [hb]; omega) (fun v hv => by
        simp only [bts, List.mem_map] at hv
        obtain ⟨x, _, rfl⟩ := hv
        rfl) (rest := rest) (Q := Q) (ops := ops)
    refine this ?_
    rw [hb]
    exact h _ (setRow_heap w g _ _ t _ hg) (Stored.setRow w g _)
section
variable {w0 w : World} {ops : Array Oper} {rest : List Oper} {o : Oper} {a : Act} {Q : Exit → Act → World → Prop} {L : List Res}
theorem wpList_copy_src (hgd : o.guard = none) (d s : Operand) (ho : o.op = .call { callee := .builtin .copy, args := #[d, s], argTypes := #[22, 22] }) (S : Sp w0 w L) (b : Nat) (hd : a.eval d = .slice (some ⟨b, 4, none⟩) 16 16)
    (i : Nat) (p : Pk) (hi : L[i]? = some (.blk b (pkC p) 30)) (v : Value) (hs : a.eval s = v) (xs : List Int) (hR : Rb w v xs) (hx : xs.length ≤ 16) (h1 : p.sB.length = 16) (h2 : p.dB.length = 16)
    (h : ∀ w2, Sp w0 w2 (L.set i (.blk b (pkC { p with sB := xs ++ p.sB.drop xs.length }) 30)) → wpList Tryd.prog ops Q rest (a.put o.dst (goInt xs.length)) w2) : wpList Tryd.prog ops Q (o :: rest) a w := by
  refine wpList_copy_blk hgd d s ho b 4 _ _ (S.pk i hi) 16 16 hd v hs xs hR hx (by rw [pkC_size h1 h2]; omega) fun w2 hA hS => h w2 (S.put i hi hS ?_)
  rw [hA]
  congr 2
  unfold pkC
  congr 1
  show (pkL p).take 4 ++ (bts xs ++ (pkL p).drop (4 + xs.length)) = pkL _
  have e : pkL p = [.int .i64 p.V, .int .i64 p.TOS, .int .i64 p.Flow, .int .i64 p.sV] ++ (bts p.sB ++ ((.int .i64 p.dV :: bts p.dB) ++ [.int .i64 p.Proto, .int .i64 p.TTL, .int .u32 p.ID, .bool p.DF, .bool p.More, .bool p.Frag, .int .i64 p.Off, p.ov, p.xv])) := by simp [pkL]
  have e2 : pkL { p with sB := xs ++ p.sB.drop xs.length } = [.int .i64 p.V, .int .i64 p.TOS, .int .i64 p.Flow, .int .i64 p.sV] ++ ((bts xs ++ bts (p.sB.drop xs.length)) ++ ((.int .i64 p.dV :: bts p.dB) ++ [.int .i64 p.Proto, .int .i64 p.TTL, .int .u32 p.ID, .bool p.DF, .bool p.More, .bool p.Frag, .int .i64 p.Off, p.ov, p.xv])) := by simp [pkL, bts_append]
  rw [e2, e, ← List.drop_drop, List.drop_left' (by rfl), List.take_left' (by rfl), List.drop_append_of_le_length (by rw [bts_length]; omega)]
  simp [bts, List.map_drop]
theorem wpList_copy_dst (hgd : o.guard = none) (d s : Operand) (ho : o.op = .call { callee := .builtin .copy, args := #[d, s], argTypes := #[22, 22] }) (S : Sp w0 w L) (b : Nat) (hd : a.eval d = .slice (some ⟨b, 21, none⟩) 16 16)
    (i : Nat) (p : Pk) (hi : L[i]? = some (.blk b (pkC p) 30)) (v : Value) (hs : a.eval s = v) (xs : List Int) (hR : Rb w v xs) (hx : xs.length ≤ 16) (h1 : p.sB.length = 16) (h2 : p.dB.length = 16)
    (h : ∀ w2, Sp w0 w2 (L.set i (.blk b (pkC { p with dB := xs ++ p.dB.drop xs.length }) 30)) → wpList Tryd.prog ops Q rest (a.put o.dst (goInt xs.length)) w2) : wpList Tryd.prog ops Q (o :: rest) a w := by
  refine wpList_copy_blk hgd d s ho b 21 _ _ (S.pk i hi) 16 16 hd v hs xs hR hx (by rw [pkC_size h1 h2]; omega) fun w2 hA hS => h w2 (S.put i hi hS ?_)
  rw [hA]
  congr 2
  unfold pkC
  congr 1
  show (pkL p).take 21 ++ (bts xs ++ (pkL p).drop (21 + xs.length)) = pkL _
  have e : pkL p = ([.int .i64 p.V, .int .i64 p.TOS, .int .i64 p.Flow, .int .i64 p.sV] ++ bts p.sB ++ [.int .i64 p.dV]) ++ (bts p.dB ++ [.int .i64 p.Proto, .int .i64 p.TTL, .int .u32 p.ID, .bool p.DF, .bool p.More, .bool p.Frag, .int .i64 p.Off, p.ov, p.xv]) := by simp [pkL]
  have e2 : pkL { p with dB := xs ++ p.dB.drop xs.length } = ([.int .i64 p.V, .int .i64 p.TOS, .int .i64 p.Flow, .int .i64 p.sV] ++ bts p.sB ++ [.int .i64 p.dV]) ++ ((bts xs ++ bts (p.dB.drop xs.length)) ++ [.int .i64 p.Proto, .int .i64 p.TTL, .int .u32 p.ID, .bool p.DF, .bool p.More, .bool p.Frag, .int .i64 p.Off, p.ov, p.xv]) := by simp [pkL, bts_append]
  have l21 : ([Value.int .i64 p.V, Value.int .i64 p.TOS, Value.int .i64 p.Flow, Value.int .i64 p.sV] ++ bts p.sB ++ [Value.int .i64 p.dV]).length = 21 := by simp [bts_length, h1]
  rw [e2, e, ← List.drop_drop, List.drop_left' l21, List.take_left' l21, List.drop_append_of_le_length (by rw [bts_length]; omega)]
  simp [bts, List.map_drop]
end
end Go.Proofs.YtaecfcaeopmiaaaDoor
