/-
  A packet that came in by value, opened out of the row's reading.
-/
import Derived.Test.YtaecfcaeopmiaaaDoorOpenA
import Derived.Test.YtaecfcaeopmiaaaDoorPkt
namespace Go.Proofs.YtaecfcaeopmiaaaDoor
open Go.ChangeShapes Go.WideShapes Go.ChangeAt Go.RowKit

theorem open_addr_c {H : Type} {enc : TypeId × Value → H} {w : World} {base fuel : Nat} {spare : Nat → Bool} {held : Bool} {l : List Value} {x : DataW H × List MemPlace}
    (hf : DataW.trod enc Tryd.prog w base spare held fuel 27 l = some x) (hll : l.length = 17) : ∃ V bs, l = .int .i64 V :: bts bs ∧ IsA V bs := by
  have hc1 : Tryd.prog.cellsOf 3 = 1 := by kernel_rfl
  have hc16 : Tryd.prog.cellsOf 25 = 16 := by kernel_rfl
  have hcu : Tryd.prog.cellsOf 5 = 1 := by kernel_rfl
  obtain ⟨xs, n, hxx, _, _, hxl, hfi⟩ := DataW.trod_struct Tryd.underlying27 hf
  have hxl : xs.length = 2 := hxl
  obtain ⟨x0, x1, rfl⟩ : ∃ x0 x1, xs = [x0, x1] := by
    match xs, hxl with
    | [x0, x1], _ => exact ⟨x0, x1, rfl⟩
  have h0 : DataW.trod enc Tryd.prog w base spare held n 3 ((l.drop 0).take (Tryd.prog.cellsOf 3)) = some x0 := hfi 0 _ rfl
  have h1 : DataW.trod enc Tryd.prog w base spare held n 25 ((l.drop 1).take (Tryd.prog.cellsOf 25)) = some x1 := hfi 1 _ rfl
  rw [hc1] at h0
  rw [hc16] at h1
  obtain ⟨V, e0, _, wV⟩ := DataW.trod_int Tryd.underlying3 h0
  obtain ⟨ys, m, rfl, _, _, hyl, hyi⟩ := DataW.trod_array Tryd.underlying25 h1
  have each : ∀ i, i < 16 → ∃ b, l[i + 1]? = some (.int .u8 b) ∧ 0 ≤ b ∧ b ≤ 255 := by
    intro i hi
    have h := hyi i hi
    rw [hcu, List.getElem?_eq_getElem (by omega)] at h
    obtain ⟨b, e, _, wb⟩ := DataW.trod_int Tryd.underlying5 h
    refine ⟨b, ?_, bounds_u8 wb⟩
    have := congrArg (fun z : List Value => z[0]?) e
    simp [List.getElem?_take, List.getElem?_drop] at this
    exact this.2
  refine ⟨V, (l.drop 1).map intU, ?_, ?_, ?_, ?_, ?_⟩
  · apply List.ext_getElem?
    intro j
    cases j with
    | zero =>
      have := congrArg (fun z : List Value => z[0]?) e0
      simp at this
      simpa using this
    | succ j =>
      show l[j + 1]? = (bts ((l.drop 1).map intU))[j]?
      rw [bts_get, List.getElem?_map, List.getElem?_drop, Nat.add_comm 1 j]
      by_cases hj : j < 16
      · obtain ⟨b, hb, _⟩ := each j hj
        rw [hb]; rfl
      · rw [List.getElem?_eq_none (by omega)]; rfl
  · rw [List.length_map, List.length_drop]; omega
  · intro x hx
    obtain ⟨j, hj⟩ := List.mem_iff_getElem?.1 hx
    rw [List.getElem?_map, List.getElem?_drop, Nat.add_comm 1 j] at hj
    by_cases hj16 : j < 16
    · obtain ⟨b, hb, hb2⟩ := each j hj16
      rw [hb] at hj
      obtain rfl : b = x := Option.some.inj hj
      exact hb2
    · rw [List.getElem?_eq_none (by omega)] at hj; cases hj
  · exact (i64_bd wV).1
  · exact (i64_bd wV).2
/-- a slice of bytes within a datum, opened, with the bound of the form's reach -/
theorem cells_bytesS {H : Type} {enc : TypeId × Value → H} {w : World} {base fuel : Nat} {spare : Nat → Bool} {held : Bool} {cs : List Value} {x : DataW H × List MemPlace}
    (h : DataW.trod enc Tryd.prog w base spare held fuel 22 cs = some x) (hsp : ∀ b, spare b = true) (hwt : ∀ n ∈ x.1.weights Tryd.prog 22, n ≤ reachBytes) : ∃ v l, cs = [v] ∧ Rb w v l ∧ l.length ≤ 140737488355328 ∧ v.oneCell' = true := by
  rcases open_ints Tryd.underlying22 Tryd.underlying5 (by kernel_rfl) h with ⟨rfl, _⟩ | ⟨a, len, cap, zs, rfl, _, hl, hm, hz, hx, hcell, hwz⟩
  · exact ⟨_, [], rfl, Rb.nil w, Nat.zero_le _, rfl⟩
  · rw [hsp, if_pos rfl] at hz
    refine ⟨_, zs.take len, rfl, rb_in hl hm hz rfl hcell hwz, ?_, rfl⟩
    have by5 : Tryd.prog.bytesOf 5 = 1 := by kernel_rfl
    rw [hx] at hwt
    have := hwt _ (by simp only [DataW.weights, Tryd.underlying22]; exact List.mem_cons_self ..)
    rw [by5] at this
    unfold reachBytes at this
    simp [lits] at this
    simp
    omega
theorem sized_bytesS {H : Type} {enc : TypeId × Value → H} {w : World} {base : Nat} {spare : Nat → Bool} {held : Bool} {v : Value} {d : DataW H} {p : List MemPlace}
    (h : DataW.Trod enc Tryd.prog w base spare held 22 v d p) (hs : ∃ a n c, v = .slice a n c) (hsp : ∀ b, spare b = true) (hwt : ∀ n ∈ d.weights Tryd.prog 22, n ≤ reachBytes) : ∃ l, Rb w v l ∧ l.length ≤ 140737488355328 := by
  obtain ⟨a, n, c, rfl⟩ := hs
  obtain ⟨f, hf⟩ := h
  obtain ⟨u, l, e, hr, hB, _⟩ := cells_bytesS (cs := [.slice a n c]) hf hsp hwt
  simp only [List.cons.injEq, and_true] at e
  subst e
  exact ⟨l, hr, hB⟩
/-- the bounds of a packet's whole numbers -/
structure PkB (p : Pk) : Prop where
  V : -9223372036854775808 ≤ p.V ∧ p.V ≤ 9223372036854775807
  TOS : -9223372036854775808 ≤ p.TOS ∧ p.TOS ≤ 9223372036854775807
  Flow : -9223372036854775808 ≤ p.Flow ∧ p.Flow ≤ 9223372036854775807
  Proto : -9223372036854775808 ≤ p.Proto ∧ p.Proto ≤ 9223372036854775807
  TTL : -9223372036854775808 ≤ p.TTL ∧ p.TTL ≤ 9223372036854775807
  Off : -9223372036854775808 ≤ p.Off ∧ p.Off ≤ 9223372036854775807
/-- a packet that came in -/
structure PkIn (w : World) (p : Pk) (lo ld : List Int) : Prop where
  pin : Pin w p lo ld
  bd : PkB p
  lo : lo.length ≤ 140737488355328
  ld : ld.length ≤ 140737488355328
set_option maxHeartbeats 1000000 in
set_option maxRecDepth 20000 in
theorem open_packet {H : Type} {enc : TypeId × Value → H} {w : World} {r : Reach} {b0 base : Nat} {spare : Nat → Bool} {held : Bool} {v : Value} {d : DataW H} {p : List MemPlace}
    (hval : Value.okWide Tryd.prog w r b0 30 v) (h : DataW.Trod enc Tryd.prog w base spare held 30 v d p) (hsp : ∀ b, spare b = true) (hwt : ∀ n ∈ d.weights Tryd.prog 30, n ≤ reachBytes) :
    ∃ q lo ld, v = .agg (pkC q) ∧ PkIn w q lo ld := by
  obtain ⟨cs, rfl, hsz⟩ : ∃ cs, v = .agg cs ∧ cs.size = 46 := by
    simp only [Value.okWide, Tryd.underlying30] at hval
    obtain ⟨cs, rfl, h, _⟩ := hval
    exact ⟨cs, rfl, by rw [h]; kernel_rfl⟩
  obtain ⟨fuel, hf⟩ := h
  have hc1 : Tryd.prog.cellsOf 3 = 1 := by kernel_rfl
  have hc2 : Tryd.prog.cellsOf 4 = 1 := by kernel_rfl
  have hc3 : Tryd.prog.cellsOf 22 = 1 := by kernel_rfl
  have hc4 : Tryd.prog.cellsOf 28 = 1 := by kernel_rfl
  have hc5 : Tryd.prog.cellsOf 27 = 17 := by kernel_rfl
  have hf : DataW.trod enc Tryd.prog w base spare held fuel 30 cs.toList = some (d, p) := hf
  have hll : cs.toList.length = 46 := by simpa using hsz
  obtain ⟨xs, n, _, hxx, _, hxl, hfi⟩ := DataW.trod_struct Tryd.underlying30 hf
  have hxl : xs.length = 14 := hxl
  obtain ⟨x0, x1, x2, x3, x4, x5, x6, x7, x8, x9, x10, x11, x12, x13, rfl⟩ : ∃ x0 x1 x2 x3 x4 x5 x6 x7 x8 x9 x10 x11 x12 x13, xs = [x0, x1, x2, x3, x4, x5, x6, x7, x8, x9, x10, x11, x12, x13] := by
    match xs, hxl with
    | [x0, x1, x2, x3, x4, x5, x6, x7, x8, x9, x10, x11, x12, x13], _ => exact ⟨x0, x1, x2, x3, x4, x5, x6, x7, x8, x9, x10, x11, x12, x13, rfl⟩
  obtain ⟨l, hcl⟩ : ∃ l, l = cs.toList := ⟨_, rfl⟩
  rw [← hcl] at hfi hll
  have h0 : DataW.trod enc Tryd.prog w base spare held n 3 ((l.drop 0).take (Tryd.prog.cellsOf 3)) = some x0 := hfi 0 _ rfl
  have h1 : DataW.trod enc Tryd.prog w base spare held n 3 ((l.drop 1).take (Tryd.prog.cellsOf 3)) = some x1 := hfi 1 _ rfl
  have h2 : DataW.trod enc Tryd.prog w base spare held n 3 ((l.drop 2).take (Tryd.prog.cellsOf 3)) = some x2 := hfi 2 _ rfl
  have h3 : DataW.trod enc Tryd.prog w base spare held n 27 ((l.drop 3).take (Tryd.prog.cellsOf 27)) = some x3 := hfi 3 _ rfl
  have h4 : DataW.trod enc Tryd.prog w base spare held n 27 ((l.drop 20).take (Tryd.prog.cellsOf 27)) = some x4 := hfi 4 _ rfl
  have h5 : DataW.trod enc Tryd.prog w base spare held n 3 ((l.drop 37).take (Tryd.prog.cellsOf 3)) = some x5 := hfi 5 _ rfl
  have h6 : DataW.trod enc Tryd.prog w base spare held n 3 ((l.drop 38).take (Tryd.prog.cellsOf 3)) = some x6 := hfi 6 _ rfl
  have h7 : DataW.trod enc Tryd.prog w base spare held n 28 ((l.drop 39).take (Tryd.prog.cellsOf 28)) = some x7 := hfi 7 _ rfl
  have h8 : DataW.trod enc Tryd.prog w base spare held n 4 ((l.drop 40).take (Tryd.prog.cellsOf 4)) = some x8 := hfi 8 _ rfl
  have h9 : DataW.trod enc Tryd.prog w base spare held n 4 ((l.drop 41).take (Tryd.prog.cellsOf 4)) = some x9 := hfi 9 _ rfl
  have h10 : DataW.trod enc Tryd.prog w base spare held n 4 ((l.drop 42).take (Tryd.prog.cellsOf 4)) = some x10 := hfi 10 _ rfl
  have h11 : DataW.trod enc Tryd.prog w base spare held n 3 ((l.drop 43).take (Tryd.prog.cellsOf 3)) = some x11 := hfi 11 _ rfl
  have h12 : DataW.trod enc Tryd.prog w base spare held n 22 ((l.drop 44).take (Tryd.prog.cellsOf 22)) = some x12 := hfi 12 _ rfl
  have h13 : DataW.trod enc Tryd.prog w base spare held n 22 ((l.drop 45).take (Tryd.prog.cellsOf 22)) = some x13 := hfi 13 _ rfl
  rw [hc1] at h0 h1 h2 h5 h6 h11
  rw [hc5] at h3 h4
  rw [hc4] at h7
  rw [hc2] at h8 h9 h10
  rw [hc3] at h12 h13
  obtain ⟨z0, e0, _, w0⟩ := DataW.trod_int Tryd.underlying3 h0
  obtain ⟨z1, e1, _, w1⟩ := DataW.trod_int Tryd.underlying3 h1
  obtain ⟨z2, e2, _, w2⟩ := DataW.trod_int Tryd.underlying3 h2
  obtain ⟨z5, e5, _, w5⟩ := DataW.trod_int Tryd.underlying3 h5
  obtain ⟨z6, e6, _, w6⟩ := DataW.trod_int Tryd.underlying3 h6
  obtain ⟨z11, e11, _, w11⟩ := DataW.trod_int Tryd.underlying3 h11
  obtain ⟨z7, e7, _, w7⟩ := DataW.trod_int Tryd.underlying28 h7
  obtain ⟨z8, e8, _⟩ := DataW.trod_bool Tryd.underlying4 h8
  obtain ⟨z9, e9, _⟩ := DataW.trod_bool Tryd.underlying4 h9
  obtain ⟨z10, e10, _⟩ := DataW.trod_bool Tryd.underlying4 h10
  obtain ⟨V3, bs3, e3, A3⟩ := open_addr_c h3 (by simp; omega)
  obtain ⟨V4, bs4, e4, A4⟩ := open_addr_c h4 (by simp; omega)
  have hd : d = .agg ([x0, x1, x2, x3, x4, x5, x6, x7, x8, x9, x10, x11, x12, x13].map (·.1)) := (Prod.mk.inj hxx).1
  have wt : ∀ (y : DataW H × List MemPlace), y = x12 ∨ y = x13 → ∀ m ∈ y.1.weights Tryd.prog 22, m ≤ reachBytes := fun y hy m hm => hwt m (by
    rw [hd]
    simp only [DataW.weights, Tryd.underlying30]
    rcases hy with rfl | rfl
    · exact DataW.weights_mem_each (j := 12) (t := 22) (d := y.1) rfl rfl m hm
    · exact DataW.weights_mem_each (j := 13) (t := 22) (d := y.1) rfl rfl m hm)
  obtain ⟨ov, lo, e12, hR1, hB1, o1⟩ := cells_bytesS h12 hsp (wt x12 (.inl rfl))
  obtain ⟨xv, ld, e13, hR2, hB2, o2⟩ := cells_bytesS h13 hsp (wt x13 (.inr rfl))
  refine ⟨⟨z0, z1, z2, V3, bs3, V4, bs4, z5, z6, z7, z8, z9, z10, z11, ov, xv⟩, lo, ld, ?_, ⟨⟨A3, A4, (bounds_u32 w7).1, (bounds_u32 w7).2, o1, o2⟩, hR1, hR2⟩, ⟨i64_bd w0, i64_bd w1, i64_bd w2, i64_bd w5, i64_bd w6, i64_bd w11⟩, hB1, hB2⟩
  congr 1
  apply Array.ext'
  rw [← hcl]
  show l = pkL _
  have step : ∀ (m : List Value) (k : Nat), m = m.take k ++ m.drop k := fun m k => (List.take_append_drop k m).symm
  have s0 : l.drop 0 = [.int .i64 z0] ++ l.drop 1 := by rw [← e0, ← List.drop_drop (i := 1) (j := 0)]; exact step _ 1
  have s1 : l.drop 1 = [.int .i64 z1] ++ l.drop 2 := by rw [← e1, ← List.drop_drop (i := 1) (j := 1)]; exact step _ 1
  have s2 : l.drop 2 = [.int .i64 z2] ++ l.drop 3 := by rw [← e2, ← List.drop_drop (i := 1) (j := 2)]; exact step _ 1
  have s3 : l.drop 3 = (.int .i64 V3 :: bts bs3) ++ l.drop 20 := by rw [← e3, ← List.drop_drop (i := 17) (j := 3)]; exact step _ 17
  have s4 : l.drop 20 = (.int .i64 V4 :: bts bs4) ++ l.drop 37 := by rw [← e4, ← List.drop_drop (i := 17) (j := 20)]; exact step _ 17
  have s5 : l.drop 37 = [.int .i64 z5] ++ l.drop 38 := by rw [← e5, ← List.drop_drop (i := 1) (j := 37)]; exact step _ 1
  have s6 : l.drop 38 = [.int .i64 z6] ++ l.drop 39 := by rw [← e6, ← List.drop_drop (i := 1) (j := 38)]; exact step _ 1
  have s7 : l.drop 39 = [.int .u32 z7] ++ l.drop 40 := by rw [← e7, ← List.drop_drop (i := 1) (j := 39)]; exact step _ 1
  have s8 : l.drop 40 = [.bool z8] ++ l.drop 41 := by rw [← e8, ← List.drop_drop (i := 1) (j := 40)]; exact step _ 1
  have s9 : l.drop 41 = [.bool z9] ++ l.drop 42 := by rw [← e9, ← List.drop_drop (i := 1) (j := 41)]; exact step _ 1
  have s10 : l.drop 42 = [.bool z10] ++ l.drop 43 := by rw [← e10, ← List.drop_drop (i := 1) (j := 42)]; exact step _ 1
  have s11 : l.drop 43 = [.int .i64 z11] ++ l.drop 44 := by rw [← e11, ← List.drop_drop (i := 1) (j := 43)]; exact step _ 1
  have s12 : l.drop 44 = [ov] ++ l.drop 45 := by rw [← e12, ← List.drop_drop (i := 1) (j := 44)]; exact step _ 1
  have s13 : l.drop 45 = [xv] ++ l.drop 46 := by rw [← e13, ← List.drop_drop (i := 1) (j := 45)]; exact step _ 1
  have s14 : l.drop 46 = [] := List.drop_of_length_le (by omega)
  have s : l = l.drop 0 := rfl
  rw [s, s0, s1, s2, s3, s4, s5, s6, s7, s8, s9, s10, s11, s12, s13, s14]
  simp [pkL]
end Go.Proofs.YtaecfcaeopmiaaaDoor
