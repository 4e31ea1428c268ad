/-
  api.Addr in memory; which addresses there are.
-/
import Derived.Test.YtaecfcaeopmiaaaDoorGen
import Derived.Test.YtaecfcaeopmiaaaDoorZero
namespace Go.Proofs.YtaecfcaeopmiaaaDoor
open Go.RowKit

/-- the cells of an address -/
def addrC (V : Int) (bs : List Int) : Array Value := (Value.int .i64 V :: bts bs).toArray
def addrV (V : Int) (bs : List Int) : Value := .agg (addrC V bs)
structure IsA (V : Int) (bs : List Int) : Prop where
  len : bs.length = 16
  byt : Byt bs
  lo : -9223372036854775808 ≤ V
  hi : V ≤ 9223372036854775807
theorem addrC_size {V : Int} {bs : List Int} (h : IsA V bs) : (addrC V bs).size = 17 := by simp [addrC, bts_length, h.len]
theorem addrC_0 (V : Int) (bs : List Int) : (addrC V bs)[0]? = some (.int .i64 V) := rfl
theorem addrC_s {V : Int} {bs : List Int} {j : Nat} (h : j < bs.length) : (addrC V bs)[j + 1]? = some (.int .u8 (gt bs j)) := by
  simp only [addrC, List.getElem?_toArray, List.getElem?_cons_succ]
  exact bts_some h
/-- a block that holds an address -/
def AddrAt (w : World) (b : Nat) (V : Int) (bs : List Int) : Prop := w.heap[b]? = some (.cells (addrC V bs) 27 (0, 0))
theorem AddrAt.v {w : World} {b : Nat} {V : Int} {bs : List Int} (h : AddrAt w b V bs) : w.cell? ⟨b, 0, none⟩ = some (.int .i64 V) := by
  unfold AddrAt at h; simp only [World.cell?, h]; exact addrC_0 V bs
theorem AddrAt.b {w : World} {b : Nat} {V : Int} {bs : List Int} (h : AddrAt w b V bs) {j : Nat} (hj : j < bs.length) : w.cell? ⟨b, 1 + j, none⟩ = some (.int .u8 (gt bs j)) := by
  unfold AddrAt at h; simp only [World.cell?, h, Nat.add_comm 1 j]; exact addrC_s hj
theorem AddrAt.below {w w' : World} {b : Nat} {V : Int} {bs : List Int} (h : AddrAt w b V bs) (hb : Below w.heap.size w w') : AddrAt w' b V bs := (hb.block b (lt_of_block h)).trans h
theorem AddrAt.alloc (w : World) (V : Int) (bs : List Int) : AddrAt (w.alloc (.cells (addrC V bs) 27)) w.heap.size V bs := heap_alloc_new w _
/-- which addresses there are -/
def validA (V : Int) (bs : List Int) : Bool := if V = 4 then zerosB (bs.drop 4) else decide (V = 6)
def APost (w : World) (v : Value) (en : Ending) (w' : World) : Prop := en = .returned v ∧ Below w.heap.size w w'
def BitsRel (w0 : World) (ds : List Int) (t : Value) (wr : World) : Prop := ∃ k : Nat, k ≤ 12 ∧ t = .int .i64 k ∧ zerosB (ds.take k) = true ∧ wr = w0
set_option maxHeartbeats 1600000 in
theorem bits_any (V : Int) (bs : List Int) (w : World) (h : IsA V bs) : Calls Tryd.prog 75 #[addrV V bs] w (APost w (.int .i64 (if V = 4 then (if zerosB (bs.drop 4) then 32 else 0) else if V = 6 then 128 else 0))) := by
  have H := hid h
  have A := hid (AddrAt.alloc w V bs)
  have c0 := A.out.v
  have BB := hid (bel_alloc w (.cells (addrC V bs) 27))
  unfold addrV
  by_cases h4 : V = 4
  · subst h4
    rw [if_pos rfl]
    have hlen := H.out.len
    have Z := hid (show ∀ k, k < 12 → (w.alloc (.cells (addrC 4 bs) 27)).cell? ⟨w.heap.size, 5 + k, none⟩ = some (.int .u8 (gt (bs.drop 4) k)) ∧ (0 ≤ gt (bs.drop 4) k ∧ gt (bs.drop 4) k ≤ 255) from fun k hk => by
      have := A.out.b (j := 4 + k) (by omega)
      rw [show 1 + (4 + k) = 5 + k by omega] at this
      have e : gt (bs.drop 4) k = gt bs (4 + k) := by simp [gt, List.getElem?_drop]
      rw [e]
      exact ⟨this, H.out.byt.bd _⟩)
    have hdl : (bs.drop 4).length = 12 := by simp; omega
    have DL := hid hdl
    clear hdl hlen h
    generalize bs.drop 4 = ds at *
    generalize hn : (if zerosB ds = true then (32 : Int) else 0) = n
    have HN := hid hn
    clear hn
    go_enter Tryd.func75, Tryd.ntmps75
    go_wp2_with fail
    generalize w.alloc (.cells (addrC 4 bs) 27) = w1 at *
    go_loopw [12] (fun t wr => BitsRel w1 ds t wr) (fun t _ => 12 - (intOf t).toNat)
    case atStart => exact ⟨0, by omega, rfl, rfl, rfl⟩
    case round =>
      obtain ⟨k, hk, rfl, hz, rfl⟩ := hrel
      have HZ := hid hz
      clear hz
      by_cases hlt : k < 12
      · have hlt' : k < ds.length := by have := DL.out; omega
        obtain ⟨ck, hx⟩ := Z.out k hlt
        have e1 := hid (show zerosB (ds.take (k + 1)) = (zerosB (ds.take k) && decide (gt ds k = 0)) by
          rw [take_snoc hlt']; simp [zerosB])
        have e2 := hid (show gt ds k ≠ 0 → zerosB ds = false from fun h => by
          cases hz : zerosB ds with
          | false => rfl
          | true =>
            simp only [zerosB, List.all_eq_true, decide_eq_true_eq] at hz
            exact absurd (by rw [gt_eq hlt']; exact hz _ (List.getElem_mem hlt')) h)
        generalize gt ds k = x at *
        by_cases hx0 : x = 0
        · subst hx0
          go_wp2_with fail
          go_roundw
          case rel => exact ⟨k + 1, by omega, by go_num, by rw [e1.out, HZ.out]; rfl, rfl⟩
          case measure => simp [intOf]; omega
        · have e3 := hid (e2.out hx0)
          have hd : (x == 0) = false := by simp [hx0]
          have hd2 : (x != 0) = true := by simp [hx0]
          clear hx0 e1 e2
          go_wp2_with fail
          go_ret
          exact ⟨by rw [← HN.out, e3.out]; rfl, BB.out⟩
      · have hk12 : k = 12 := by omega
        subst hk12
        have e3 := hid (show zerosB ds = true by have := HZ.out; rwa [List.take_of_length_le (by rw [DL.out]; omega)] at this)
        go_wp2_with fail
        go_ret
        exact ⟨by rw [← HN.out, e3.out]; rfl, BB.out⟩
  · rw [if_neg h4]
    have hb4 : (V == 4) = false := by simp [h4]
    by_cases h6 : V = 6
    · subst h6
      rw [if_pos rfl]
      clear h4 h hb4
      go_enter Tryd.func75, Tryd.ntmps75
      go_wp2_with fail
      go_ret
      exact ⟨rfl, BB.out⟩
    · rw [if_neg h6]
      have hb6 : (V == 6) = false := by simp [h6]
      clear h4 h6 h
      go_enter Tryd.func75, Tryd.ntmps75
      go_wp2_with fail
      go_ret
      exact ⟨rfl, BB.out⟩
theorem addr_info : (Tryd.prog.info? 27).map (·.size) = some 17 := by kernel_rfl
/-- loading an address that lies in a block -/
theorem wpList_load_addr {w : World} {ops : Array Oper} {rest : List Oper} {o : Oper} {a : Act} {Q : Exit → Act → World → Prop} (hgd : Region.wanted o (yielded ops a.tmps) = true) (x : Operand) (ho : o.op = .load 27 x)
    (b : Nat) (V : Int) (bs : List Int) (hx : a.eval x = .pointer (some ⟨b, 0, none⟩)) (hA : AddrAt w b V bs) (hl : bs.length = 16) (h : wpList Tryd.prog ops Q rest (a.put o.dst (.agg (addrC V bs))) w) : wpList Tryd.prog ops Q (o :: rest) a w := by
  refine wpList_step fun K hK => ?_
  rw [if_pos hgd]
  exact wp_load_row 27 x ho b hx _ _ _ _ hA Tryd.underlying27 rfl (by rw [addr_info]; simp [addrC, bts_length, hl]) (hK _ _ h)
theorem validA_eq (V : Int) (bs : List Int) : decide ((0 : Int) < (if V = 4 then (if zerosB (bs.drop 4) then 32 else 0) else if V = 6 then 128 else 0)) = validA V bs := by
  unfold validA
  split
  · cases zerosB (bs.drop 4) <;> rfl
  · split
    · rename_i h; simp [h]
    · rename_i h; simp [h]
theorem valid_any (V : Int) (bs : List Int) (w : World) (h : IsA V bs) : Calls Tryd.prog 68 #[addrV V bs] w (APost w (.bool (validA V bs))) := by
  have H := hid h
  have A := hid (AddrAt.alloc w V bs)
  have BB := hid (bel_alloc w (.cells (addrC V bs) 27))
  have B := bits_any V bs (w.alloc (.cells (addrC V bs) 27)) h
  have VE := validA_eq V bs
  generalize (if V = 4 then (if zerosB (bs.drop 4) then (32 : Int) else 0) else if V = 6 then 128 else 0) = n at *
  have B := hid B
  have VE := hid VE
  unfold addrV at *
  clear h
  go_enter Tryd.func68, Tryd.ntmps68
  go_wp2_with (refine wpList_load_addr rfl _ rfl _ _ _ rfl A.out H.out.len ?_)
  refine B.out.mono ?_
  rintro en w' ⟨rfl, hb⟩
  have B2 := hid (BB.out.trans (hb.mono (by simp)))
  clear hb
  go_wp2_with fail
  go_ret
  exact ⟨by rw [← VE.out]; rfl, B2.out⟩

end Go.Proofs.YtaecfcaeopmiaaaDoor
