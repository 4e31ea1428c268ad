/-
  Options in memory: what a slice of api.Opt reads as; the table of shapes; the small functions of layer 4.
-/
import Derived.Test.YtaecfcaeopmiaaaDoorP04
import Derived.Test.YtaecfcaeopmiaaaDoorFrame
import Derived.Test.YtaecfcaeopmiaaaDoorGen
namespace Go.Proofs.YtaecfcaeopmiaaaDoor
open Go.RowKit

structure HOpt where
  k : Int
  v : Value
  l : List Int
def HOpt.o (h : HOpt) : Opt := (h.k, h.l)
instance : Inhabited HOpt := ⟨⟨0, .slice none 0 0, []⟩⟩
def ocells : List HOpt → List Value
  | [] => []
  | h :: hs => .int .i64 h.k :: h.v :: ocells hs
theorem ocells_append (a b : List HOpt) : ocells (a ++ b) = ocells a ++ ocells b := by
  induction a with
  | nil => rfl
  | cons h a ih => simp [ocells, ih]
theorem ocells_length (a : List HOpt) : (ocells a).length = a.length * 2 := by
  induction a with
  | nil => rfl
  | cons h a ih => simp [ocells, ih]; omega
theorem ocells_get : ∀ (a : List HOpt) (j : Nat) (h : HOpt), a[j]? = some h → (ocells a)[j * 2]? = some (.int .i64 h.k) ∧ (ocells a)[j * 2 + 1]? = some h.v
  | [], j, h, e => by simp at e
  | x :: a, 0, h, e => by simp at e; subst e; exact ⟨rfl, rfl⟩
  | x :: a, j + 1, h, e => by
    have := ocells_get a j h (by simpa using e)
    rw [show (j + 1) * 2 = j * 2 + 1 + 1 by omega]
    simpa [ocells] using this
/-- the slice value reads as the options -/
def Ropt (w : World) (sv : Value) (hs : List HOpt) : Prop :=
  ∃ a cap, sv = .slice a hs.length cap ∧ hs.length ≤ cap ∧ cap ≤ maxLen ∧
    ∀ j h, hs[j]? = some h → ∃ b off, a = some ⟨b, off, none⟩ ∧ w.cell? ⟨b, off + j * 2, none⟩ = some (.int .i64 h.k) ∧ w.cell? ⟨b, off + j * 2 + 1, none⟩ = some h.v ∧ Rb w h.v h.l ∧ (Lit.int .i64 h.k).wf = true
theorem Ropt.below {w w' : World} {sv : Value} {hs : List HOpt} (h : Ropt w sv hs) (hb : Below w.heap.size w w') : Ropt w' sv hs := by
  obtain ⟨a, cap, e, h1, h2, h3⟩ := h
  refine ⟨a, cap, e, h1, h2, fun j x hx => ?_⟩
  obtain ⟨b, off, e2, c0, c1, r, kb⟩ := h3 j x hx
  have hlt := World.block_lt_of_cell? _ _ c0
  exact ⟨b, off, e2, (hb.cell (p := ⟨b, off + j * 2, none⟩) hlt).trans c0, (hb.cell (p := ⟨b, off + j * 2 + 1, none⟩) hlt).trans c1, r.below hb, kb⟩
theorem Ropt.same {w w' : World} {sv : Value} {hs : List HOpt} (h : Ropt w sv hs) (hb : Same w w') : Ropt w' sv hs := h.below (hb.below _)
theorem Ropt.of_own {w : World} {base : Nat} {v : Value} {n : Nat} {hs : List HOpt} (h : w.ownsRow base 102 2 v n (ocells hs)) (hr : ∀ x ∈ hs, Rb w x.v x.l ∧ (Lit.int .i64 x.k).wf = true) : Ropt w v hs := by
  have hn : n = hs.length := by have := h.1; rw [ocells_length] at this; omega
  subst hn
  obtain ⟨a, cap, rfl, h1, h2, h3⟩ := own_shape h
  refine ⟨a, cap, rfl, h1, h2, fun j x hx => ?_⟩
  have hj : j < hs.length := (List.getElem?_eq_some_iff.1 hx).1
  rcases h3 with ⟨_, h0, _⟩ | ⟨g, rfl⟩
  · omega
  · obtain ⟨c0, c1⟩ := ocells_get hs j x hx
    refine ⟨g, 0, rfl, ?_, ?_, hr x (List.mem_of_getElem? hx)⟩
    · rw [Nat.zero_add]; exact (World.ownsRow.cellAt h (j * 2) (by omega)).trans c0
    · rw [Nat.zero_add]; exact (World.ownsRow.cellAt h (j * 2 + 1) (by omega)).trans c1

theorem info_opt : (Tryd.prog.info? 102).map (fun i => (i.zero, i.size, i.bytes)) = some (some (.agg #[.int .i64 0, .slice none 0 0]), 2, 32) := by kernel_rfl

/-- the table of shapes holds what it was laid as -/
def Tab (w : World) : Prop := w.cell? ⟨0, 0, none⟩ = some (.int .i64 1) ∧ w.cell? ⟨0, 1, none⟩ = some (.int .i64 2)
theorem Tab.below {w w' : World} (h : Tab w) (hb : Below w.heap.size w w') : Tab w' :=
  ⟨(hb.cell (p := ⟨0, 0, none⟩) (World.block_lt_of_cell? _ _ h.1)).trans h.1, (hb.cell (p := ⟨0, 1, none⟩) (World.block_lt_of_cell? _ _ h.2)).trans h.2⟩
theorem Tab.same {w w' : World} (h : Tab w) (hb : Same w w') : Tab w' := h.below (hb.below _)
theorem shape_0 (w : World) (h : Tab w) : Calls Tryd.prog 71 #[.int .i64 0] w fun en w' => en = .returned (.int .i64 1) ∧ w = w' := by
  obtain ⟨h0, h1⟩ := h
  go_enter Tryd.func71, Tryd.ntmps71
  go_wp2
  go_ret
  exact ⟨rfl, rfl⟩
theorem shape_1 (w : World) (h : Tab w) : Calls Tryd.prog 71 #[.int .i64 1] w fun en w' => en = .returned (.int .i64 2) ∧ w = w' := by
  obtain ⟨h0, h1⟩ := h
  go_enter Tryd.func71, Tryd.ntmps71
  go_wp2
  go_ret
  exact ⟨rfl, rfl⟩
theorem shape_2 (k : Int) (w : World) (h : 2 ≤ k) : Calls Tryd.prog 71 #[.int .i64 k] w fun en w' => en = .returned (.int .i64 0) ∧ w = w' := by
  have hd : decide (k < 2) = false := by simp; omega
  go_enter Tryd.func71, Tryd.ntmps71
  go_wp2
  go_ret
  exact ⟨rfl, rfl⟩

/-! ### are all bytes 0? -/
theorem nz_any (x : Int) (w : World) (_h : 0 ≤ x ∧ x ≤ 255) : Calls Tryd.prog 77 #[.int .u8 x] w fun en w' => en = .returned (.bool (!decide (x = 0))) ∧ w = w' := by
  go_enter Tryd.func77, Tryd.ntmps77
  go_wp2
  go_ret
  refine ⟨?_, rfl⟩
  by_cases hx : x = 0 <;> simp [hx]
def IdxPost (l : List Int) (w : World) (en : Ending) (w' : World) : Prop := ∃ n : Int, en = .returned (.int .i64 n) ∧ w = w' ∧ ((zerosB l = true ∧ n = -1) ∨ (zerosB l = false ∧ 0 ≤ n))
theorem zerosB_take {l : List Int} {k : Nat} (h : k < l.length) : zerosB (l.take (k + 1)) = (zerosB (l.take k) && decide (gt l k = 0)) := by
  rw [take_snoc' h, gt_eq h]; simp only [zerosB, List.all_append, List.all_cons, List.all_nil, Bool.and_true]
theorem zerosB_out {l : List Int} {k : Nat} (h : k < l.length) (h0 : gt l k ≠ 0) : zerosB l = false := by
  cases hz : zerosB l with
  | false => rfl
  | true =>
    simp only [zerosB, List.all_eq_true, decide_eq_true_eq] at hz
    exact absurd (by rw [gt_eq h]; exact hz _ (List.getElem_mem h)) h0
def IdxRel (l : List Int) (t : Value) : Prop := ∃ k : Nat, k ≤ l.length ∧ t = .int .i64 k ∧ zerosB (l.take k) = true
set_option maxHeartbeats 800000 in
theorem idx_any (v : Value) (l : List Int) (w : World) (h : Rb w v l) : Calls Tryd.prog 78 #[v, .func (.func 77) #[] #[]] w (IdxPost l w) := by
  have HB := hid h
  obtain ⟨a, cap, rfl, hc, hm, hz⟩ := h.open
  unfold maxLen at hm
  have HZ := hid hz
  clear h hz
  go_enter Tryd.func78, Tryd.ntmps78
  go_wp2_with fail
  go_loop [8] (fun t => IdxRel l t) (fun t => l.length - (intOf t).toNat)
  case atStart => exact ⟨0, Nat.zero_le _, rfl, rfl⟩
  case round =>
    obtain ⟨k, hk, rfl, hz0⟩ := hrel
    have Z0 := hid hz0
    clear hz0
    by_cases hlt : k < l.length
    · rcases HZ.out with h0 | ⟨b, off, rfl, hcell⟩
      · omega
      have hck := hcell k hlt
      have hx := HB.out.byt.bd k
      have hzt := hid (zerosB_take hlt)
      have hzo := hid (fun h => zerosB_out hlt h)
      clear hcell
      generalize gt l k = x at *
      by_cases hx0 : x = 0
      · subst hx0
        go_wp2_with fail
        refine (nz_any _ _ (by omega)).mono ?_
        rintro en w' ⟨rfl, rfl⟩
        go_wp2_with fail
        go_round
        case rel => exact ⟨k + 1, by omega, by go_num, by rw [hzt.out, Z0.out]; rfl⟩
        case measure => simp [intOf]; omega
      · have hd : decide (x = 0) = false := by simp [hx0]
        go_wp2_with fail
        refine (nz_any _ _ (by omega)).mono ?_
        rintro en w' ⟨rfl, rfl⟩
        go_wp2_with fail
        go_ret
        exact ⟨_, rfl, rfl, Or.inr ⟨hzo.out hx0, by omega⟩⟩
    · have hkl : k = l.length := by omega
      subst hkl
      go_wp2
      go_ret
      exact ⟨_, rfl, rfl, Or.inl ⟨by have := Z0.out; rwa [List.take_length] at this, rfl⟩⟩
theorem contains_any (v : Value) (l : List Int) (w : World) (h : Rb w v l) : Calls Tryd.prog 76 #[v, .func (.func 77) #[] #[]] w fun en w' => en = .returned (.bool (!zerosB l)) ∧ w = w' := by
  have H := hid h
  clear h
  go_enter Tryd.func76, Tryd.ntmps76
  go_wp2_with fail
  refine (idx_any v l _ H.out).mono ?_
  rintro en w' ⟨n, rfl, rfl, hn⟩
  have HN := hid hn
  clear hn
  go_wp2
  go_ret
  refine ⟨?_, rfl⟩
  rcases HN.out with ⟨h1, rfl⟩ | ⟨h1, h2⟩
  · rw [h1]; rfl
  · rw [h1]; simp [h2]
theorem empty_any (v : Value) (l : List Int) (w : World) (h : Rb w v l) : Calls Tryd.prog 72 #[v] w fun en w' => en = .returned (.bool (zerosB l)) ∧ w = w' := by
  have H := hid h
  clear h
  go_enter Tryd.func72, Tryd.ntmps72
  go_wp2_with fail
  refine (contains_any v l _ H.out).mono ?_
  rintro en w' ⟨rfl, rfl⟩
  go_wp2
  go_ret
  exact ⟨by simp, rfl⟩
def ZRel (l : List Int) (w : World) (t : Value) (wr : World) : Prop := ∃ k : Nat, k ≤ l.length ∧ t = .int .i64 k ∧ zerosB (l.take k) = true ∧ w = wr
end Go.Proofs.YtaecfcaeopmiaaaDoor
