/-
  The first bytes of a list as an address' bytes, noughts behind them; a byte of an address stored; a build in a drawn region.
-/
import Derived.Test.YtaecfcaeopmiaaaDoorSp
namespace Go.Proofs.YtaecfcaeopmiaaaDoor
open Go.RowKit

def zp (bs : List Int) (k : Nat) : List Int := bs.take k ++ List.replicate (16 - k) 0
theorem zp_len {bs : List Int} {k : Nat} (hl : k ≤ bs.length) (hk : k ≤ 16) : (zp bs k).length = 16 := by unfold zp; simp; omega
theorem zp_step {bs : List Int} {k : Nat} (hl : k < bs.length) (hk : k < 16) : (zp bs k).set k (gt bs k) = zp bs (k + 1) := by
  unfold zp
  apply List.ext_getElem?
  intro j
  rw [List.getElem?_set]
  have e1 : (bs.take k).length = k := by simp; omega
  have e2 : (bs.take (k + 1)).length = k + 1 := by simp; omega
  by_cases hj : k = j
  · subst hj
    rw [if_pos rfl, if_pos (by simp; omega), List.getElem?_append_left (by omega), List.getElem?_take, if_pos (by omega), gt_some (by omega)]
  · rw [if_neg hj]
    by_cases hlt : j < k
    · rw [List.getElem?_append_left (by omega), List.getElem?_append_left (by omega), List.getElem?_take, List.getElem?_take, if_pos hlt, if_pos (by omega)]
    · rw [List.getElem?_append_right (by omega), List.getElem?_append_right (by omega), e1, e2, List.getElem?_replicate, List.getElem?_replicate]
      by_cases h16 : j < 16
      · rw [if_pos (by omega), if_pos (by omega)]
      · rw [if_neg (by omega), if_neg (by omega)]
theorem zp_byt {bs : List Int} {k : Nat} (h : Byt bs) : Byt (zp bs k) := (h.take k).append (fun x hx => by simp at hx; omega)
theorem addrC_size16 {V : Int} {bs : List Int} (h : bs.length = 16) : (addrC V bs).size = 17 := by simp [addrC, bts_length, h]
theorem addrC_ones (V : Int) (bs : List Int) : (addrC V bs).all (·.oneCell') = true := all_oneCell_toArray (by
  intro v hv
  rcases List.mem_cons.1 hv with rfl | h
  · rfl
  · simp only [bts, List.mem_map] at h
    obtain ⟨x, _, rfl⟩ := h
    rfl)
theorem wpList_put_zb {w0 w : World} {ops : Array Oper} {rest : List Oper} {o : Oper} {a : Act} {Q : Exit → Act → World → Prop} {L : List Res} (hgd : o.guard = none) (x y : Operand) (ho : o.op = .store 5 x y) (hd : o.dst = none) (S : Sp w0 w L)
    (b k : Nat) (hx : a.eval x = .pointer (some ⟨b, 1 + k, none⟩)) (z : Int) (hy : a.eval y = .int .u8 z) (i : Nat) (V : Int) (bs : List Int) (hi : L[i]? = some (.blk b (addrC V bs) 27)) (hk : k < bs.length)
    (h : ∀ w2, Sp w0 w2 (L.set i (.blk b (addrC V (bs.set k z)) 27)) → wpList Tryd.prog ops Q rest a w2) : wpList Tryd.prog ops Q (o :: rest) a w := by
  refine wpList_store_rng hgd 5 x y ho hd b (1 + k) (.int .u8 z) hx hy [.int .u8 z] rfl (by simp; rfl) 27 (addrC V bs) (S.heap i hi) u8_info1 (by simp [addrC, bts_length]; omega) fun w2 k1 k2 => h w2 (S.put i hi k2 ?_)
  rw [k1]
  have e1 : (addrC V bs).toList = .int .i64 V :: bts bs := rfl
  have e2 : (Value.int .i64 V :: bts bs).take (1 + k) ++ [Value.int .u8 z] ++ (Value.int .i64 V :: bts bs).drop (1 + k + 1) = (Value.int .i64 V :: bts bs).set (1 + k) (.int .u8 z) := by
    rw [List.set_eq_take_append_cons_drop, if_pos (by simp [bts_length]; omega)]
    simp
  rw [e1]
  simp only [List.length_singleton]
  rw [e2, Nat.add_comm 1 k, List.set_cons_succ]
  simp [addrC, bts]
theorem wpList_buildC {w : World} {ops : Array Oper} {rest : List Oper} {o : Oper} {a : Act} {Q : Exit → Act → World → Prop} (hgd : Region.wanted o (yielded ops a.tmps) = true) (ty : TypeId) (ps : Array (Nat × Operand)) (ho : o.op = .build ty ps) (cs : Array Value)
    (hb : Tryd.prog.built ty (ps.map fun (i, x) => (i, a.eval x)).toList = some cs) (h : wpList Tryd.prog ops Q rest (a.put o.dst (.agg cs)) w) : wpList Tryd.prog ops Q (o :: rest) a w := by
  refine wpList_step fun K hK => ?_
  rw [if_pos hgd]
  unfold Oper.wp execOp
  simp only [ho, Sem.run_bind, run_build w ty _ cs hb, Result.andThen_ok]
  exact hK _ _ h
/-- a mark: these cells are built so (a rule of the walk may not look into it) -/
def BuildIs (ty : TypeId) (ps : List (Nat × Value)) (cs : Array Value) : Prop := Tryd.prog.built ty ps = some cs
end Go.Proofs.YtaecfcaeopmiaaaDoor
