/-
  slices.DeleteFunc at options, with the closure of Carry.
-/
import Derived.Test.YtebfbpfikbjjlaaDoorSO04
import Derived.Deep.Upon
namespace Go.Proofs.YtebfbpfikbjjlaaDoor
open Go.RowKit

theorem and128 (k : Int) (h0 : 0 ≤ k) (h1 : k ≤ 255) : bits .and .i64 k 128 = if k < 128 then 0 else 128 := by
  have key : ∀ n : Fin 256, bits .and .i64 (n.val : Int) 128 = if (n.val : Int) < 128 then 0 else 128 := by decide +kernel
  have := key ⟨k.toNat, by omega⟩
  rwa [show (((⟨k.toNat, by omega⟩ : Fin 256).val : Nat) : Int) = k from by simp; omega] at this
def LowPost (k : Int) (w : World) (en : Ending) (w' : World) : Prop := en = .returned (.bool (decide (k < 128))) ∧ Below w.heap.size w w'
theorem low_any (k : Int) (a : Option Addr) (n c : Nat) (w : World) (h0 : 0 ≤ k) (h1 : k ≤ 255) : Calls Tryd.prog 30 #[.agg #[.int .i64 k, .slice a n c]] w (LowPost k w) := by
  have ha := and128 k h0 h1
  by_cases hk : k < 128
  · rw [if_pos hk] at ha
    go_enter Tryd.func30, Tryd.ntmps30
    go_wp2
    go_ret
    exact ⟨by rw [decide_eq_true hk]; rfl, bel_alloc _ _⟩
  · rw [if_neg hk] at ha
    have hd : decide (k < 128) = false := decide_eq_false hk
    rw [show LowPost k w = fun en w' => en = .returned (.bool false) ∧ Below w.heap.size w w' from by unfold LowPost; rw [hd]]
    clear hd hk
    go_enter Tryd.func30, Tryd.ntmps30
    go_wp2
    go_ret
    exact ⟨rfl, bel_alloc _ _⟩

def hiH (h : HOpt) : Bool := decide (128 ≤ h.k)
/-- the first option of a low kind -/
def IxPost (hs : List HOpt) (w : World) (en : Ending) (w' : World) : Prop :=
  ∃ n : Int, en = .returned (.int .i64 n) ∧ Below w.heap.size w w' ∧ ((n = -1 ∧ ∀ x ∈ hs, hiH x = true) ∨ ∃ i : Nat, n = i ∧ i < hs.length ∧ (∀ x ∈ hs.take i, hiH x = true) ∧ ∀ x, hs[i]? = some x → hiH x = false)
def IxRel (w0 : World) (hs : List HOpt) (t : Value) (wr : World) : Prop := ∃ k : Nat, k ≤ hs.length ∧ t = .int .i64 k ∧ (∀ x ∈ hs.take k, hiH x = true) ∧ Below w0.heap.size w0 wr
set_option maxHeartbeats 1600000 in
set_option maxRecDepth 20000 in
theorem ix_any (v : Value) (hs : List HOpt) (w : World) (h : Ropt w v hs) (hk : ∀ x ∈ hs, 0 ≤ x.k ∧ x.k ≤ 255) : Calls Tryd.prog 35 #[v, .func (.func 30) #[] #[]] w (IxPost hs w) := by
  have H := hid h
  have HK := hid hk
  obtain ⟨a, cap, rfl, hc, hm, _⟩ := h
  unfold maxLen at hm
  clear hk
  go_enter Tryd.func35, Tryd.ntmps35
  go_wp2_with fail
  go_loopw [8] (fun t wr => IxRel w hs t wr) (fun t _ => hs.length - (intOf t).toNat)
  case atStart => exact ⟨0, Nat.zero_le _, rfl, by simp, Below.refl _ _⟩
  case round =>
    obtain ⟨k, hk, rfl, hz0, hB⟩ := hrel
    have Z0 := hid hz0
    have B := hid hB
    clear hz0 hB
    by_cases hlt : k < hs.length
    · obtain ⟨x, hx⟩ : ∃ x, hs[k]? = some x := ⟨hs[k], List.getElem?_eq_getElem hlt⟩
      obtain ⟨b, off, av, cv, rfl, hve, c0, c1, hrb, _, hkb⟩ := ropt_at (H.out.below B.out) hx
      obtain ⟨k0, k1⟩ := HK.out x (List.mem_of_getElem? hx)
      have HX := hid hx
      clear hx hve hrb hkb
      by_cases hlow : x.k < 128
      · have hd : decide (x.k < 128) = true := decide_eq_true hlow
        have HH := hid (show hiH x = false by unfold hiH; simp; omega)
        generalize x.l = lx at *
        generalize x.k = kx at *
        go_wp2_with fail
        refine (low_any _ _ _ _ _ k0 k1).mono ?_
        rintro en w' ⟨rfl, hb⟩
        have BB := hid (B.out.trans (hb.mono B.out.size))
        rw [hd]
        clear hb
        go_wp2_with fail
        go_ret
        exact ⟨_, rfl, BB.out, Or.inr ⟨k, rfl, hlt, Z0.out, fun y hy => by have := HX.out; rw [hy] at this; obtain rfl := Option.some.inj this; exact HH.out⟩⟩
      · have hd : decide (x.k < 128) = false := decide_eq_false hlow
        have HH := hid (show hiH x = true by unfold hiH; simp; omega)
        generalize x.l = lx at *
        generalize x.k = kx at *
        go_wp2_with fail
        refine (low_any _ _ _ _ _ k0 k1).mono ?_
        rintro en w' ⟨rfl, hb⟩
        have BB := hid (B.out.trans (hb.mono B.out.size))
        rw [hd]
        clear hb
        go_wp2_with fail
        go_roundw
        case rel => exact ⟨k + 1, by omega, by go_num, fun y hy => by
          obtain ⟨hl, e⟩ := List.getElem?_eq_some_iff.1 HX.out
          rw [List.take_succ_eq_append_getElem hl, e] at hy
          rcases List.mem_append.1 hy with h | h
          · exact Z0.out y h
          · rw [List.mem_singleton.1 h]; exact HH.out, BB.out⟩
        case measure => simp [intOf]; omega
    · have hkl : k = hs.length := by omega
      subst hkl
      go_wp2_with fail
      go_ret
      exact ⟨_, rfl, B.out, Or.inl ⟨rfl, by have := Z0.out; rwa [List.take_length] at this⟩⟩

/-! ### slices of rows of elements of several cells -/
theorem run_slice_l_row {P : Program} (t e : TypeId) (hu : P.underlying t = some (.slice e)) {ti : TypeInfo} (hi : P.info? e = some ti) {sz : Nat} (h1 : ti.size = sz) (g len cap : Nat) (k : IntKind) (i : Nat) (hil : i ≤ len) (hic : i < cap) (w : World) :
    (Instr.slice t (.slice (some ⟨g, 0, none⟩) len cap) (some (.int k (i : Int))) none none).run P w = .ok (.slice (some ⟨g, i * sz, none⟩) (len - i) (cap - i)) w := by
  have hsz : ∀ w, (sizeOf e).run P w = .ok sz w := fun w => by simp [sizeOf, typeInfo, hi, h1]
  have hne : ¬ cap = i := by omega
  have ha : (⟨g, 0, none⟩ : Addr).add (i * sz) = ⟨g, i * sz, none⟩ := by rw [WideShapes.add_plain]; simp
  simp [Instr.slice, run_underlying hu, Instr.sliceBounds, Instr.sliceBound, hil, hsz, asIntOf, hne, ha]
theorem run_slice_h_row {P : Program} (t e : TypeId) (hu : P.underlying t = some (.slice e)) {ti : TypeInfo} (hi : P.info? e = some ti) {sz : Nat} (h1 : ti.size = sz) (a : Option Addr) (len cap : Nat) (k : IntKind) (i : Nat) (hic : i ≤ cap) (w : World) :
    (Instr.slice t (.slice a len cap) none (some (.int k (i : Int))) none).run P w = .ok (.slice a i cap) w := by
  have hsz : ∀ w, (sizeOf e).run P w = .ok sz w := fun w => by simp [sizeOf, typeInfo, hi, h1]
  have hm : (if cap = 0 then a else a.map (fun x => x.add 0)) = a := by
    split
    · rfl
    · cases a <;> simp [Addr.add]
  simp [Instr.slice, run_underlying hu, Instr.sliceBounds, Instr.sliceBound, hic, hsz, asIntOf, hm]
/-- 'clear(s)', s a part of a row of elements of several cells -/
theorem run_clear_row {P : Program} (w : World) (t e ty : TypeId) (z : Value) (zs : List Value) (ht : P.underlying t = some (.slice e)) (hv : ∀ w, (zeroValue e).run P w = .ok z w) (b o n c : Nat) (hn : 0 < n) (hzs : (Builtin.zeroCells z.cells n).toList = zs)
    (h1 : ∀ v ∈ zs, v.oneCell' = true) (hc : ∀ j, j < zs.length → (w.cell? ⟨b, o + j, none⟩).isSome = true) (hf : ∀ j, j < zs.length → w.frozen? ⟨b, o + j, none⟩ = false) :
    (Builtin.clear_ #[t] ty #[.slice (some ⟨b, o, none⟩) n c]).run P w = .ok (.tuple #[]) (w.setCells b o zs) := by
  have hst := run_storeCells_cells (P := P) b o zs 0 w (by simpa using hc) (by simpa using hf) h1
  simp only [Nat.add_zero] at hst
  obtain ⟨m, rfl⟩ : ∃ m, n = m + 1 := ⟨n - 1, by omega⟩
  simp [Builtin.clear_, run_underlying ht, hv, hzs, hst]
theorem zero_opts (n : Nat) : (Builtin.zeroCells #[Value.int .i64 0, .slice none 0 0] n).toList.length = n * 2 ∧ ∀ v ∈ (Builtin.zeroCells #[Value.int .i64 0, .slice none 0 0] n).toList, v.oneCell' = true := by
  refine ⟨by simp [Builtin.zeroCells], fun v hv => ?_⟩
  simp only [Builtin.zeroCells, Array.toList_map, List.mem_map] at hv
  obtain ⟨i, _, rfl⟩ := hv
  rcases (show i % 2 = 0 ∨ i % 2 = 1 by omega) with h | h <;> simp [h, Value.oneCell']

/-! ### the list in place -/
structure Sift (hs cur : List HOpt) (i j : Nat) : Prop where
  len : cur.length = hs.length
  ij : i < j
  jn : j ≤ hs.length
  front : cur.take i = (hs.take j).filter hiH
  back : cur.drop j = hs.drop j
theorem Sift.at {hs cur : List HOpt} {i j : Nat} (h : Sift hs cur i j) {x : HOpt} (hx : hs[j]? = some x) : cur[j]? = some x := by
  have := congrArg (fun l => l[0]?) h.back
  simpa [hx] using this
theorem take_filter_snoc {hs : List HOpt} {j : Nat} {x : HOpt} (hx : hs[j]? = some x) : (hs.take (j + 1)).filter hiH = (hs.take j).filter hiH ++ if hiH x then [x] else [] := by
  obtain ⟨hl, e⟩ := List.getElem?_eq_some_iff.1 hx
  rw [List.take_succ_eq_append_getElem hl, e, List.filter_append]
  congr 1
  cases h : hiH x <;> simp [h]
theorem Sift.skip {hs cur : List HOpt} {i j : Nat} (h : Sift hs cur i j) {x : HOpt} (hx : hs[j]? = some x) (hh : hiH x = false) : Sift hs cur i (j + 1) := by
  have hj : j < hs.length := (List.getElem?_eq_some_iff.1 hx).1
  have hij := h.ij
  refine ⟨h.len, by omega, by omega, by rw [take_filter_snoc hx, hh]; simpa using h.front, ?_⟩
  rw [← List.drop_drop, ← List.drop_drop, h.back]
theorem Sift.keep {hs cur : List HOpt} {i j : Nat} (h : Sift hs cur i j) {x : HOpt} (hx : hs[j]? = some x) (hh : hiH x = true) : Sift hs (cur.set i x) (i + 1) (j + 1) := by
  have hj : j < hs.length := (List.getElem?_eq_some_iff.1 hx).1
  have hij := h.ij
  have hl := h.len
  refine ⟨by simpa using h.len, by omega, by omega, ?_, ?_⟩
  · rw [take_filter_snoc hx, hh, List.take_succ_eq_append_getElem (by simp; omega), List.take_set_of_le (Nat.le_refl _)]
    simp [h.front]
  · rw [List.drop_set_of_lt (by omega), ← List.drop_drop, ← List.drop_drop, h.back]

theorem ocells_set : ∀ (cur : List HOpt) (i : Nat) (x : HOpt), i < cur.length → ((ocells cur).set (i * 2) (.int .i64 x.k)).set (i * 2 + 1) x.v = ocells (cur.set i x)
  | [], i, x, h => by simp at h
  | y :: cur, 0, x, h => by simp [ocells]
  | y :: cur, i + 1, x, h => by
    have := ocells_set cur i x (by simpa using h)
    rw [show (i + 1) * 2 = i * 2 + 1 + 1 by omega]
    simp only [ocells, List.set_cons_succ]
    rw [this]
/-- all but block g is as it was -/
structure KeepBut (g : Nat) (w w' : World) : Prop where
  size : w.heap.size ≤ w'.heap.size
  block : ∀ b, b < w.heap.size → b ≠ g → w'.heap[b]? = w.heap[b]?
theorem KeepBut.below {g : Nat} {w w1 w2 : World} (h : KeepBut g w w1) (hb : Below w1.heap.size w1 w2) : KeepBut g w w2 :=
  ⟨Nat.le_trans h.size hb.size, fun b hlt hne => (hb.block b (Nat.lt_of_lt_of_le hlt h.size)).trans (h.block b hlt hne)⟩
theorem KeepBut.setCell {g : Nat} {w w1 : World} (h : KeepBut g w w1) (o : Nat) (u : Value) : KeepBut g w (w1.setCell ⟨g, o, none⟩ u) :=
  ⟨by simpa [World.setCell] using h.size, fun b hlt hne => (Below.heap_setCell _ _ _ _ hne).trans (h.block b hlt hne)⟩
def DRel (base : Nat) (w0 : World) (hs : List HOpt) (g cap : Nat) (ti tj : Value) (wr : World) : Prop :=
  ∃ (i j : Nat) (cur : List HOpt), ti = .int .i64 i ∧ tj = .int .i64 j ∧ Sift hs cur i j ∧ wr.ownsRow base 38 2 (.slice (some ⟨g, 0, none⟩) hs.length cap) hs.length (ocells cur) ∧ Below base w0 wr ∧ KeepBut g w0 wr
def DelPost (base : Nat) (hs : List HOpt) (w : World) (en : Ending) (w' : World) : Prop := ∃ v, en = .returned v ∧ Ropt w' v (hs.filter hiH) ∧ Below base w w'
theorem below_setCells' {B : Nat} {a : World} (b : Nat) (hb : B ≤ b) : ∀ (vs : List Value) (o : Nat) {w : World}, Below B a w → Below B a (w.setCells b o vs)
  | [], _, _, h => h
  | v :: r, o, _, h => below_setCells' b hb r (o + 1) (h.setCell (p := ⟨b, o, none⟩) hb v)
theorem filter_all {hs : List HOpt} (h : ∀ x ∈ hs, hiH x = true) : hs.filter hiH = hs := List.filter_eq_self.2 h
set_option maxHeartbeats 3200000 in
set_option maxRecDepth 20000 in
theorem del_any (base : Nat) (v : Value) (hs : List HOpt) (w : World) (h : OwnO base w v hs) (hbase : base ≤ w.heap.size) : Calls Tryd.prog 29 #[v, .func (.func 30) #[] #[]] w (DelPost base hs w) := by
  obtain ⟨i2, hi2, hz20, hz21, hz22⟩ := info_parts info_opt
  have RO := hid h.ropt
  obtain ⟨ρ, hR, hL, hJ⟩ := h
  have hK : ∀ x ∈ hs, 0 ≤ x.k ∧ x.k ≤ 255 := fun x hx => by
    obtain ⟨j, hj⟩ := List.mem_iff_getElem?.1 hx
    exact (hJ j x hj).2.2.2
  have HK := hid hK
  have R := hid hR
  obtain ⟨a, cap, rfl, hc, hm, hsh⟩ := own_shape hR
  unfold maxLen at hm
  have RX := hid (show ∀ g, a = some ⟨g, 0, none⟩ → ∀ x ∈ hs, Rb w x.v x.l ∧ ∀ b, x.v.ownBlock = some b → b ≠ g from fun g hg x hx => by
    obtain ⟨j, hj⟩ := List.mem_iff_getElem?.1 hx
    obtain ⟨p1, p2, p3, _⟩ := hJ j x hj
    refine ⟨Rb.of_own p2 p1, fun b hb e => ?_⟩
    have h1 := p3 b hb
    have h2 := hL g (by rw [hg]; rfl)
    rw [e, h2] at h1
    omega)
  have HSH := hid hsh
  clear hR hL hJ hK hsh
  go_enter Tryd.func29, Tryd.ntmps29
  go_wp2_with fail
  refine (ix_any _ hs _ RO.out HK.out).mono ?_
  rintro en w1 ⟨n, rfl, hb1, hn⟩
  rcases hn with ⟨rfl, hall⟩ | ⟨i0, rfl, hi0, hfr, hat⟩
  · have F := hid (show DelPost base hs w (.returned (.slice a hs.length cap)) w1 from ⟨_, rfl, by rw [filter_all hall]; exact RO.out.below hb1, hb1.mono hbase⟩)
    clear hall hb1
    go_wp2_with fail
    go_ret
    exact F.out
  · rcases HSH.out with ⟨_, h0, _⟩ | ⟨g, rfl⟩
    · omega
    have hx0 : hs[i0]? = some hs[i0] := List.getElem?_eq_getElem hi0
    have R1 := hid (own_below R.out hb1)
    have B1 := hid (hb1.mono hbase)
    have S0 := hid (show DRel base w hs g cap (.int .i64 (i0 : Int)) (.int .i64 ((i0 : Int) + 1)) w1 from
      ⟨i0, i0 + 1, hs, rfl, by go_num, ⟨rfl, by omega, by omega, by rw [take_filter_snoc hx0, hat _ hx0, filter_all hfr]; simp, rfl⟩, R1.out, B1.out, ⟨hb1.size, fun b hlt _ => hb1.block b hlt⟩⟩)
    clear hb1 hfr hat hx0 R1 B1
    have hd0 : ((i0 : Int) == -1) = false := by rw [beq_eq_false_iff_ne]; omega
    go_wp2_with fail
    go_loopw [5, 6] (fun ti tj wr => DRel base w hs g cap ti tj wr) (fun _ tj _ => hs.length - (intOf tj).toNat)
    case atStart => exact S0.out
    case round =>
      clear S0 hd0
      obtain ⟨i, j, cur, rfl, rfl, hS, hR, hB, hF⟩ := hrel
      have S := hid hS
      have R := hid hR
      have B := hid hB
      have F := hid hF
      have hBs := hB.size
      have hij := hS.ij
      have hcl := hS.len
      have hjn := hS.jn
      clear hS hR hB hF
      by_cases hlt : j < hs.length
      · obtain ⟨x, hx⟩ : ∃ x, hs[j]? = some x := ⟨hs[j], List.getElem?_eq_getElem hlt⟩
        obtain ⟨hxr, hxb⟩ := RX.out g rfl x (List.mem_of_getElem? hx)
        obtain ⟨k0, k1⟩ := HK.out x (List.mem_of_getElem? hx)
        obtain ⟨av, cv, hve, _, _, _⟩ := hxr.open
        obtain ⟨q0, q1⟩ := ocells_get cur j x (S.out.at hx)
        have d0 := (World.ownsRow.cellAt R.out (j * 2) (by omega)).trans q0
        have d1 := (World.ownsRow.cellAt R.out (j * 2 + 1) (by omega)).trans q1
        have hgl := (R.out.lt g rfl).2
        have SK := hid (fun hh => S.out.skip hx hh)
        have SP := hid (fun hh => S.out.keep hx hh)
        have OS := hid (ocells_set cur i x (by omega))
        rw [hve] at d1 OS
        clear hx hxr hxb hve q0 q1
        by_cases hlow : x.k < 128
        · have hd : decide (x.k < 128) = true := decide_eq_true hlow
          have SK := hid (SK.out (by unfold hiH; simp; omega))
          clear SP OS
          generalize x.l = lx at *
          generalize x.k = kx at *
          go_wp2_with fail
          refine (low_any _ _ _ _ _ k0 k1).mono ?_
          rintro en w2 ⟨rfl, hb⟩
          have hb2 : Hid (Below wr.heap.size wr w2) := hid ((bel_alloc wr _).trans (hb.mono (by simp)))
          rw [hd]
          clear hb
          go_wp2_with fail
          go_roundw
          case rel => exact ⟨i, j + 1, cur, rfl, by go_num, SK.out, own_below R.out hb2.out, B.out.trans (hb2.out.mono (Nat.le_trans hbase hBs)), F.out.below hb2.out⟩
          case measure => simp [intOf]; omega
        · have hd : decide (x.k < 128) = false := decide_eq_false hlow
          have SP := hid (SP.out (by unfold hiH; simp; omega))
          clear SK
          generalize x.l = lx at *
          generalize hkx : x.k = kx at *
          clear hkx
          go_wp2_with fail
          refine (low_any _ _ _ _ _ k0 k1).mono ?_
          rintro en w2 ⟨rfl, hb⟩
          have hb2 : Hid (Below wr.heap.size wr w2) := hid ((bel_alloc wr _).trans (hb.mono (by simp)))
          have hb3 := hid hb
          have R2 := hid (own_below R.out hb2.out)
          obtain ⟨y, hy⟩ : ∃ y, cur[i]? = some y := ⟨cur[i], List.getElem?_eq_getElem (by omega)⟩
          obtain ⟨q0, q1⟩ := ocells_get cur i y hy
          have e0 := (World.ownsRow.cellAt R2.out (i * 2) (by omega)).trans q0
          have e1 := (World.ownsRow.cellAt R2.out (i * 2 + 1) (by omega)).trans q1
          have f0 := World.ownsRow.frozenAt R2.out (i * 2)
          have f1 := World.ownsRow.frozenAt R2.out (i * 2 + 1)
          have bx := (hb3.out.block wr.heap.size (by simp)).trans (heap_alloc_new wr (.cells #[.int .i64 kx, .slice av lx.length cv] 38))
          obtain ⟨p0, p1, _, _⟩ := cells2 bx
          have hne : wr.heap.size ≠ g := by omega
          rw [hd]
          clear hb hy q0 q1 bx
          go_wp2_with fail
          have O1 := hid (World.ownsRow.stored (World.ownsRow.stored R2.out (i * 2) (.int .i64 kx)).1 (i * 2 + 1) (.slice av lx.length cv)).1
          rw [OS.out] at O1
          go_roundw
          case rel => exact ⟨i + 1, j + 1, _, by go_num, by go_num, SP.out, O1.out, ((B.out.trans (hb2.out.mono (Nat.le_trans hbase hBs))).setCell (R2.out.lt g rfl).1 _).setCell (R2.out.lt g rfl).1 _, ((F.out.below hb2.out).setCell _ _).setCell _ _⟩
          case measure => simp [intOf]; omega
      · have hjl : j = hs.length := by omega
        subst hjl
        have hlen : (hs.filter hiH).length = i := by
          have := congrArg List.length S.out.front
          rw [List.take_length] at this
          rw [← this, List.length_take]
          omega
        have hfr : cur.take i = hs.filter hiH := by have := S.out.front; rwa [List.take_length] at this
        have hslb : ∀ W, Sem.run Tryd.prog (Instr.slice 23 (.slice (some ⟨g, 0, none⟩) hs.length cap) (some (.int .i64 (i : Int))) none none) W = .ok (.slice (some ⟨g, i * 2, none⟩) (hs.length - i) (cap - i)) W := fun W =>
          run_slice_l_row (P := Tryd.prog) 23 38 Tryd.underlying23 hi2 hz21 g hs.length cap .i64 i (by omega) (by omega) W
        have hslh : ∀ W, Sem.run Tryd.prog (Instr.slice 23 (.slice (some ⟨g, 0, none⟩) hs.length cap) none (some (.int .i64 (i : Int))) none) W = .ok (.slice (some ⟨g, 0, none⟩) i cap) W := fun W =>
          run_slice_h_row (P := Tryd.prog) 23 38 Tryd.underlying23 hi2 hz21 (some ⟨g, 0, none⟩) hs.length cap .i64 i (by omega) W
        obtain ⟨zs, hzs⟩ : ∃ zs, (Builtin.zeroCells #[Value.int .i64 0, .slice none 0 0] (hs.length - i)).toList = zs := ⟨_, rfl⟩
        obtain ⟨zl, z1⟩ := zero_opts (hs.length - i)
        rw [hzs] at zl z1
        have ZL := hid zl
        have hclr : ∀ ty, (Builtin.clear_ #[23] ty #[.slice (some ⟨g, i * 2, none⟩) (hs.length - i) (cap - i)]).run Tryd.prog wr = .ok (.tuple #[]) (wr.setCells g (i * 2) zs) := fun ty =>
          run_clear_row (P := Tryd.prog) wr 23 38 ty (.agg #[.int .i64 0, .slice none 0 0]) zs Tryd.underlying23 (fun W => by simp [zeroValue, typeInfo, hi2, hz20]) g (i * 2) (hs.length - i) (cap - i) (by omega) hzs z1
            (fun m hm => by
              have hcel := World.ownsRow.cellAt R.out (i * 2 + m) (by omega)
              rw [hcel]
              have : i * 2 + m < (ocells cur).length := by rw [ocells_length, hcl]; omega
              rw [List.getElem?_eq_getElem this]; rfl)
            (fun m hm => World.ownsRow.frozenAt R.out (i * 2 + m))
        have FIN := hid (show DelPost base hs w (.returned (.slice (some ⟨g, 0, none⟩) i cap)) (wr.setCells g (i * 2) zs) from by
          refine ⟨_, rfl, ⟨some ⟨g, 0, none⟩, cap, by rw [hlen], by omega, by unfold maxLen; omega, fun m y hy => ?_⟩, below_setCells' g (R.out.lt g rfl).1 _ _ B.out⟩
          have hm : m < i := by rw [← hlen]; exact (List.getElem?_eq_some_iff.1 hy).1
          have hy' : cur[m]? = some y := by
            rw [← hfr, List.getElem?_take, if_pos hm] at hy; exact hy
          have hmem : y ∈ hs := (List.mem_filter.1 (List.mem_of_getElem? hy)).1
          obtain ⟨q0, q1⟩ := ocells_get cur m y hy'
          obtain ⟨r1, r2⟩ := RX.out g rfl y hmem
          refine ⟨g, 0, rfl, ?_, ?_, r1.move fun _ b hb hlt => ?_, ?_⟩
          · rw [World.cell?_setCells_out _ _ _ _ _ (fun _ _ => by left; simp; omega), Nat.zero_add]
            exact (World.ownsRow.cellAt R.out (m * 2) (by omega)).trans q0
          · rw [World.cell?_setCells_out _ _ _ _ _ (fun _ _ => by left; simp; omega), Nat.zero_add]
            exact (World.ownsRow.cellAt R.out (m * 2 + 1) (by omega)).trans q1
          · rw [World.heap_setCells_other _ _ _ _ (Nat.lt_of_lt_of_le hlt F.out.size) (r2 b hb)]
            exact F.out.block b hlt (r2 b hb)
          · have := HK.out y hmem
            simp [Lit.wf, IntKind.min, IntKind.max, IntKind.signed, IntKind.bits]; omega)
        clear S R B F hzs zl z1 hfr hlen
        go_wp2_with fail
        go_ret
        exact FIN.out

end Go.Proofs.YtebfbpfikbjjlaaDoor
