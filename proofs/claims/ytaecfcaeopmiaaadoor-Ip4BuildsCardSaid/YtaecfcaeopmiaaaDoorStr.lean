/-
  Bytes as a text; two of them compared.
-/
import Derived.Laws.BytesArg
import Derived.Test.YtaecfcaeopmiaaaDoorPkt
import Derived.Laws.StructEq
namespace Go.Proofs.YtaecfcaeopmiaaaDoor
open Go.RowKit

theorem all_range_eqI : ∀ (xs ys : List Int), xs.length = ys.length → ((List.range xs.length).all fun i => xs.getD i 0 == ys.getD i 0) = (xs == ys)
  | [], [], _ => rfl
  | x :: xs, y :: ys, h => by
    have ih := all_range_eqI xs ys (by simpa using h)
    rw [List.length_cons, List.range_succ_eq_map, List.all_cons, List.all_map]
    simp only [List.getD_cons_zero, Function.comp_def, List.getD_cons_succ, ih]
    simp [List.cons_beq_cons]
  | [], _ :: _, h => by simp at h
  | _ :: _, [], h => by simp at h
theorem run_equalIn_bts {P : Program} (w : World) (d : Nat) (t e : TypeId) (n : Nat) (ht : P.underlying t = some (.array n e)) (he : P.underlying e = some (.int .u8)) (hsz : ∀ w, (sizeOf e).run P w = .ok 1 w)
    (xs ys : List Int) (hx : xs.length = n) (hy : ys.length = n) :
    (Op.equalIn (d + 2) t (.agg (bts xs).toArray) (.agg (bts ys).toArray)).run P w = .ok (xs == ys) w := by
  rw [← all_range_eqI xs ys (hx.trans hy.symm), hx, List.range_eq_range', Op.equalIn]
  simp only [Sem.run_bind, run_underlying ht, Result.andThen_ok, hsz, Std.Legacy.Range.forIn_eq_forIn_range', Std.Legacy.Range.size, Nat.sub_zero, Nat.add_sub_cancel, Nat.div_one]
  have hl : ∀ i ∈ List.range' 0 n 1, i < n := fun i hi => by simpa using (List.mem_range'_1.1 hi).2
  generalize List.range' 0 n 1 = l at hl ⊢
  induction l with
  | nil => simp
  | cons i l ih =>
    have hi : i < n := hl i (by simp)
    have px : (part e (bts xs).toArray (i * 1)).run P w = .ok (.int .u8 (xs.getD i 0)) w := by
      simp [part, isAgg, run_underlying he, bts, List.getD, List.getElem?_eq_getElem (show i < xs.length by omega)]
    have py : (part e (bts ys).toArray (i * 1)).run P w = .ok (.int .u8 (ys.getD i 0)) w := by
      simp [part, isAgg, run_underlying he, bts, List.getD, List.getElem?_eq_getElem (show i < ys.length by omega)]
    have pe : (Op.equalIn (d + 1) e (.int .u8 (xs.getD i 0)) (.int .u8 (ys.getD i 0))).run P w = .ok (xs.getD i 0 == ys.getD i 0) w :=
      run_equalIn_int w d e .u8 .u8 _ _ he
    simp only [List.forIn_cons, Sem.run_bind, px, py, pe, Result.andThen_ok, List.all_cons]
    cases hb : (xs.getD i 0 == ys.getD i 0)
    · simp
    · simp only [Bool.not_true, Bool.false_eq_true, if_false, Sem.run_pure, Result.andThen_ok, Bool.true_and]
      exact ih fun j hj => hl j (by simp [hj])
theorem addr_stood : (Tryd.prog).stoodInHeld 27 = false := by kernel_rfl
theorem u8_size (w : World) : (sizeOf 5).run Tryd.prog w = .ok 1 w := by simp [sizeOf]; rfl
theorem run_equalIn_addr (w : World) (d : Nat) (V U : Int) (bs cs : List Int) (hb : bs.length = 16) (hc : cs.length = 16) :
    (Op.equalIn (d + 4) 27 (.agg (addrC V bs)) (.agg (addrC U cs))).run Tryd.prog w = .ok (V == U && bs == cs) w := by
  have hf : (Tryd.prog).underlying 27 = some (.struct (Program.fieldsOf Tryd.prog 27)) := by
    simp only [Program.fieldsOf, Tryd.underlying27]
  rw [run_equalIn_struct w (d + 3) _ _ _ hf addr_stood]
  simp only [Program.fieldsOf, Tryd.underlying27]
  simp only [Op.eqFields]
  have p1 : ∀ (X : Int) (L : List Int) W, (part 3 (addrC X L) 0).run Tryd.prog W = .ok (.int .i64 X) W := fun X L W => by
    simp [part, isAgg, run_underlying Tryd.underlying3, addrC]
  have p2 : ∀ (X : Int) (L : List Int) W, L.length = 16 → (part 25 (addrC X L) 1).run Tryd.prog W = .ok (.agg (bts L).toArray) W := fun X L W hL => by
    simp [part, isAgg, sizeOf, run_underlying Tryd.underlying25, addrC]
    exact List.take_of_length_le (by rw [bts_length, hL]; exact Nat.le_refl 16)
  rw [if_pos (by decide), if_pos (by decide)]
  simp only [Sem.run_bind, p1, p2 _ _ _ hb, p2 _ _ _ hc, Result.andThen_ok, run_equalIn_int w (d + 2) 3 .i64 .i64 V U Tryd.underlying3, Sem.run_ite, run_equalIn_bts w (d + 1) 25 5 16 Tryd.underlying25 Tryd.underlying5 u8_size bs cs hb hc, Sem.run_pure]
  cases V == U <;> cases bs == cs <;> simp
theorem run_eql_addr (w : World) (V U : Int) (bs cs : List Int) (hb : bs.length = 16) (hc : cs.length = 16) :
    (binOp .eql 27 (.agg (addrC V bs)) (.agg (addrC U cs))).run Tryd.prog w = .ok (.bool (V == U && bs == cs)) w := by
  rw [run_eql_struct, run_equalIn_addr w 9996 V U bs cs hb hc]
  rfl
theorem run_neq_addr (w : World) (V U : Int) (bs cs : List Int) (hb : bs.length = 16) (hc : cs.length = 16) :
    (binOp .neq 27 (.agg (addrC V bs)) (.agg (addrC U cs))).run Tryd.prog w = .ok (.bool (!(V == U && bs == cs))) w := by
  rw [run_neq_struct, run_equalIn_addr w 9996 V U bs cs hb hc]
  rfl
/-- bytes that a slice reads as, made a text -/
theorem rb_text {w : World} {v : Value} {l : List Int} (h : Rb w v l) {P : Program} (src dst e : TypeId) (hs : P.underlying src = some (.slice e)) (he : P.underlying e = some (.int .u8)) (hd : P.underlying dst = some .string) : (convert src dst v).run P w = .ok (.string (strOfNums l)) w := by
  obtain ⟨a, cap, rfl, hc, hm, hz⟩ := h.open
  rcases hz with h0 | ⟨b, off, rfl, hcell⟩
  · have hl : l = [] := List.length_eq_zero_iff.1 h0
    subst hl
    cases a with
    | none => exact run_convert_bytes_nil w src e hs he _ _ dst hd
    | some x =>
      rw [run_convert_bytes_string w src dst e _ _ _ hs he hd]
      simp [Conv.bytesToString, loadCells, strOfNums]
      try rfl
  · exact run_convert_bytes_arg w src e hs he b off _ cap l rfl (fun i hi => by simpa [gt] using hcell i hi) dst hd
theorem str_inj {l m : List Int} (hl : Byt l) (hm : Byt m) : ((strOfNums l).toList == (strOfNums m).toList) = decide (l = m) := by
  have e : ∀ k : List Int, (strOfNums k).toList = k.map fun n => UInt8.ofNat n.toNat := fun k => by rw [ByteArray.toList_eq]; exact strOfNums_data k
  rw [e, e, Bool.eq_iff_iff]
  simp only [beq_iff_eq, decide_eq_true_eq]
  constructor
  · intro h
    have h2 := congrArg (List.map fun u : UInt8 => (u.toNat : Int)) h
    simp only [List.map_map] at h2
    have back : ∀ k : List Int, Byt k → k.map ((fun u : UInt8 => (u.toNat : Int)) ∘ fun n => UInt8.ofNat n.toNat) = k := fun k hk => by
      conv => rhs; rw [← List.map_id k]
      apply List.map_congr_left
      intro x hx
      have := hk x hx
      simp only [Function.comp_apply, UInt8.toNat_ofNat', id_eq]
      omega
    rw [back l hl, back m hm] at h2
    exact h2
  · intro h; rw [h]
def SameP (w : World) (b : Bool) (en : Ending) (w' : World) : Prop := en = .returned (.bool b) ∧ w' = w
end Go.Proofs.YtaecfcaeopmiaaaDoor
