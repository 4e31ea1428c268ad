/-
  slices.Clone, the helpers of the statements and of the document: same, first, rest.
-/
import Derived.Test.YtebfbpfikbjjlaaDoorO04
import Derived.Lib.SliceRun
namespace Go.Proofs.YtebfbpfikbjjlaaDoor
open Go.RowKit

/-- a copy of its own is told; nothing old has turned -/
def OwnPost (l : List Int) (w : World) (en : Ending) (w' : World) : Prop :=
  ∃ v, en = .returned v ∧ w'.ownsRow w.heap.size 5 1 v l.length (bts l) ∧ Below w.heap.size w w'
set_option maxHeartbeats 800000 in
theorem clone_any (v : Value) (l : List Int) (w : World) (h : Rb w v l) (hl : l.length ≤ 1073741824) : Calls Tryd.prog 27 #[v] w (OwnPost l w) := by
  obtain ⟨i0, hi, hz0, hz1, hz2⟩ := info_parts Tryd.info5
  have HB := hid h
  obtain ⟨a, cap, rfl, hc, hm, hz⟩ := h.open
  have q22 : ∀ (w : World) (a : Option Addr) (n c n' c' : Nat), (binOp .eql 22 (.slice a n c) (.slice none n' c')).run Tryd.prog w = .ok (.bool a.isNone) w := fun w a n c n' c' => Lib.run_eql_slice_nil w _ _ a n c n' c' Tryd.underlying22
  clear h hz
  cases a with
  | none =>
    have hn : l = [] := by
      obtain ⟨_, a', cap', e, _, _, h3, h4⟩ := HB.out
      simp only [Value.slice.injEq] at e
      obtain ⟨rfl, _, rfl⟩ := e
      cases l with
      | nil => rfl
      | cons x l => obtain ⟨b, off, e, _⟩ := h4 0 (by simp); cases e
    subst hn
    go_enter Tryd.func27, Tryd.ntmps27
    go_wp2
    go_ret
    exact ⟨_, rfl, World.ownsRow_nil _ _ _ _, Below.refl _ _⟩
  | some ad =>
    go_enter Tryd.func27, Tryd.ntmps27
    go_wp2_with (at_builtin; refine wpList_append_bytes rfl _ _ 22 rfl w.heap.size 5 i0 _ Tryd.underlying22 hi hz0 hz1 hz2 rfl _ _ _ rfl (World.ownsRow_made w #[] 0 (Nat.le_refl _) (Nat.zero_le _) rfl) _ l rfl (HB.out.below (bel_alloc w _)) (by simp; omega) (by simp) ?_; intro a2 c2 w2 ho hg hat)
    go_ret
    refine ⟨_, rfl, ?_, ((Below.refl _ w).alloc (Nat.le_refl _) _).grown hg (by simp) (fun k hk => by obtain rfl := Option.some.inj hk; exact Nat.le_refl _)⟩
    simpa using ho

/-! ### same -/
/-- only draws were made -/
def Drw (w w' : World) : Prop := ∃ n, w' = w.drewN n
theorem Drw.refl (w : World) : Drw w w := ⟨0, rfl⟩
theorem Drw.step {a b : World} (h : Drw a b) (n : Nat) : Drw a (b.drewN n) := by obtain ⟨m, rfl⟩ := h; exact ⟨m + n, by rw [World.drewN_drewN]⟩
theorem Drw.same {a b : World} (h : Drw a b) : Same a b := by obtain ⟨m, rfl⟩ := h; exact Same.drewN _ _
theorem Drw.below {a b : World} (h : Drw a b) (B : Nat) : Below B a b := h.same.below B
def SameRel (w0 : World) (l m : List Int) (t : Value) (wr : World) : Prop := ∃ k : Nat, k ≤ l.length ∧ t = .int .i64 k ∧ l.take k = m.take k ∧ Drw w0 wr
theorem take_ne {l m : List Int} {k : Nat} (hk : k < l.length) (hl : l.length = m.length) (h : gt l k ≠ gt m k) : l ≠ m := fun e => h (by rw [e])
def SamePost (w : World) (b : Bool) (en : Ending) (w' : World) : Prop := en = .returned (.bool b) ∧ Drw w w'
set_option maxHeartbeats 1600000 in
theorem same_any (v u : Value) (l m : List Int) (w : World) (hv : Rb w v l) (hu : Rb w u m) : Calls Tryd.prog 16 #[v, u] w (SamePost w (decide (l = m))) := by
  have HV := hid hv
  have HU := hid hu
  obtain ⟨a, cap, rfl, hc, hm, hz⟩ := hv.open
  obtain ⟨a2, cap2, rfl, hc2, hm2, hz2⟩ := hu.open
  unfold maxLen at hm hm2
  have HZ := hid hz
  have HZ2 := hid hz2
  clear hv hu hz hz2
  by_cases hlen : l.length = m.length
  · have HL := hid hlen
    have hd : decide ((l.length : Int) = (m.length : Int)) = true := by simp [hlen]
    have hd1 : ((l.length : Int) != (m.length : Int)) = false := by simp [hlen]
    clear hlen
    go_enter Tryd.func16, Tryd.ntmps16
    go_wp2_with fail
    go_loopw [5] (fun t wr => SameRel w l m t wr) (fun t _ => l.length - (intOf t).toNat)
    case atStart => exact ⟨0, Nat.zero_le _, rfl, rfl, Drw.refl _⟩
    case round =>
      obtain ⟨k, hk, rfl, hz0, hS⟩ := hrel
      have Z0 := hid hz0
      have HS := hid hS
      clear hz0 hS
      by_cases hlt : k < l.length
      · have hlt2 : k < m.length := by have := HL.out; omega
        rcases HZ.out with h0 | ⟨b, off, rfl, hcell⟩
        · omega
        rcases HZ2.out with h0 | ⟨b2, off2, rfl, hcell2⟩
        · omega
        have hck := (HS.out.same.cell _).trans (hcell k hlt)
        have hck2 := (HS.out.same.cell _).trans (hcell2 k hlt2)
        have hx := HV.out.byt.bd k
        have hy := HU.out.byt.bd k
        have hts := hid (take_snoc hlt)
        have hts2 := hid (take_snoc hlt2)
        have hne := hid (take_ne (m := m) hlt HL.out)
        clear hcell hcell2
        generalize gt l k = x at *
        generalize gt m k = y at *
        by_cases hxy : x = y
        · subst hxy
          go_wp2_with fail
          go_quiet (fail)
          go_wp2
          go_roundw
          case rel => first | exact ⟨k + 1, by omega, by go_num, by rw [hts.out, hts2.out, Z0.out], HS.out.step _⟩ | ((repeat apply Exists.intro); exact ⟨⟨k + 1, by omega, by go_num, by rw [hts.out, hts2.out, Z0.out], HS.out.step _⟩, rfl⟩)
          case measure => (simp [intOf]) <;> omega
        · have hd3 : (x != y) = true := by simp [hxy]
          have hd4 : (x == y) = false := by simp [hxy]
          have HXY := hid hxy
          clear hxy
          go_wp2_with fail
          go_quiet (fail)
          go_wp2
          go_ret
          refine ⟨?_, HS.out.step _⟩
          rw [decide_eq_false (hne.out HXY.out)]
          rfl
      · have hkl : k = l.length := by omega
        subst hkl
        go_wp2_with fail
        go_ret
        refine ⟨?_, HS.out⟩
        have := Z0.out
        rw [List.take_length, HL.out, List.take_length] at this
        rw [decide_eq_true this]
        rfl
  · have hd : decide ((l.length : Int) = (m.length : Int)) = false := by simp; omega
    have hd1 : ((l.length : Int) != (m.length : Int)) = true := by simp; omega
    have hd2 : decide (l = m) = false := decide_eq_false fun e => hlen (by rw [e])
    rw [hd2]
    clear hlen
    go_enter Tryd.func16, Tryd.ntmps16
    go_wp2_with fail
    go_ret
    exact ⟨rfl, Drw.refl _⟩

/-! ### first -/
/-- how many bytes the first option has; 0: none; -1: it may not be -/
def firstL (l : List Int) : Int :=
  if l.length = 0 then 0 else if gt l 0 = 0 then (if zerosB l then 0 else -1) else if gt l 0 = 1 then 1
  else if l.length < 2 ∨ gt l 1 < 2 ∨ (l.length : Int) < gt l 1 then -1 else gt l 1
set_option maxHeartbeats 1600000 in
theorem first_any (v : Value) (l : List Int) (w : World) (h : Rb w v l) : Calls Tryd.prog 28 #[v] w fun en w' => en = .returned (.int .i64 (firstL l)) ∧ w = w' := by
  have HB := hid h
  obtain ⟨a, cap, rfl, hc, hm, hz⟩ := h.open
  unfold maxLen at hm
  have HZ := hid hz
  clear h hz
  by_cases h0 : l.length = 0
  · have e : firstL l = 0 := by unfold firstL; rw [if_pos h0]
    rw [e, h0]
    go_enter Tryd.func28, Tryd.ntmps28
    go_wp2_with fail
    go_ret
    exact ⟨rfl, rfl⟩
  · have hpos : 0 < l.length := by omega
    have hb0 : ((l.length : Int) == 0) = false := by rw [beq_eq_false_iff_ne]; omega
    rcases HZ.out with h0' | ⟨b, off, rfl, hcell⟩
    · omega
    have c0 := hcell 0 hpos
    rw [Nat.add_zero] at c0
    have hx := HB.out.byt.bd 0
    have hF := hid (show firstL l = if gt l 0 = 0 then (if zerosB l then 0 else -1) else if gt l 0 = 1 then 1 else if l.length < 2 ∨ gt l 1 < 2 ∨ (l.length : Int) < gt l 1 then -1 else gt l 1 by unfold firstL; rw [if_neg h0])
    by_cases hx0 : gt l 0 = 0
    · rw [hx0] at c0
      have e := hF.out
      rw [if_pos hx0] at e
      rw [e]
      have Z := zeros_any _ l w HB.out
      clear hcell e hx hF hx0
      generalize zerosB l = zb at *
      cases zb
      all_goals
        go_enter Tryd.func28, Tryd.ntmps28
        go_wp2_with fail
        refine Z.mono ?_
        rintro en w' ⟨rfl, rfl⟩
        go_wp2_with fail
        go_ret
        exact ⟨rfl, rfl⟩
    · by_cases hx1 : gt l 0 = 1
      · rw [hx1] at c0
        have e := hF.out
        rw [if_neg hx0, if_pos hx1] at e
        rw [e]
        clear hcell e hx hF hx0 hx1
        go_enter Tryd.func28, Tryd.ntmps28
        go_wp2_with fail
        go_ret
        exact ⟨rfl, rfl⟩
      · have e := hF.out
        rw [if_neg hx0, if_neg hx1] at e
        generalize gt l 0 = x at *
        have hxa : (x == 0) = false := by simp [hx0]
        have hxb : (x == 1) = false := by simp [hx1]
        clear hF
        by_cases h2 : l.length < 2
        · rw [if_pos (Or.inl h2)] at e
          rw [e]
          have hd : decide ((l.length : Int) < 2) = true := by simp; omega
          clear hcell e hx0 hx1 h2
          go_enter Tryd.func28, Tryd.ntmps28
          go_wp2_with fail
          go_ret
          exact ⟨rfl, rfl⟩
        · have hd : decide ((l.length : Int) < 2) = false := by simp; omega
          have c1 := hcell 1 (by omega)
          have hy := HB.out.byt.bd 1
          have hlt1 : (1 : Int) < l.length := by omega
          generalize gt l 1 = y at *
          by_cases hy2 : y < 2
          · rw [if_pos (Or.inr (Or.inl hy2))] at e
            rw [e]
            have hd2 : decide (y < 2) = true := by simp; omega
            clear hcell e hx0 hx1
            go_enter Tryd.func28, Tryd.ntmps28
            go_wp2_with fail
            go_ret
            exact ⟨rfl, rfl⟩
          · have hd2 : decide (y < 2) = false := by simp; omega
            by_cases hy3 : (l.length : Int) < y
            · rw [if_pos (Or.inr (Or.inr hy3))] at e
              rw [e]
              have hd3 : decide ((l.length : Int) < y) = true := by simp; omega
              clear hcell e hx0 hx1
              go_enter Tryd.func28, Tryd.ntmps28
              go_wp2_with fail
              go_ret
              exact ⟨rfl, rfl⟩
            · rw [if_neg (by omega)] at e
              rw [e]
              have hd3 : decide ((l.length : Int) < y) = false := by simp; omega
              clear hcell e hx0 hx1
              go_enter Tryd.func28, Tryd.ntmps28
              go_wp2_with fail
              go_ret
              exact ⟨rfl, rfl⟩

end Go.Proofs.YtebfbpfikbjjlaaDoor
