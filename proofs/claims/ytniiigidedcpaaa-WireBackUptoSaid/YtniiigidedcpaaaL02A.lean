/-
  The statements' own helpers of layer 2: own, same, alive.
-/
import Derived.Test.YtniiigidedcpaaaWireS
namespace Go.Proofs.Ytniiigidedcpaaa
open Go.RowKit

/-- a copy of its own is told; nothing old has turned -/
def OwnPost (l : List Int) (w : World) (en : Ending) (w' : World) : Prop :=
  ∃ v, en = .returned v ∧ w'.ownsRow w.heap.size 5 1 v l.length (bts l) ∧ Below w.heap.size w w'
def OwnRel (l : List Int) (w : World) (c i : Value) (wr : World) : Prop :=
  ∃ k : Nat, k ≤ l.length ∧ i = .int .i64 k ∧ wr.ownsRow w.heap.size 5 1 c k (bts (l.take k)) ∧ Below w.heap.size w wr
set_option maxHeartbeats 800000 in
theorem own_any (v : Value) (l : List Int) (w : World) (h : Rb w v l) (hl : l.length ≤ 140737488355328) : Calls Try.prog 11 #[v] w (OwnPost l w) := by
  obtain ⟨i0, hi, hz0, hz1, hz2⟩ := info_parts Try.info5
  have HB := hid h
  obtain ⟨a, cap, rfl, hc, hm, hz⟩ := h.open
  unfold maxLen at hm
  have HZ := hid hz
  clear h hz
  go_enter Try.func11, Try.ntmps11
  go_wp2
  go_loopw [3, 4] (fun c i wr => OwnRel l w c i wr) (fun _ i _ => l.length - (intOf i).toNat)
  case atStart => exact ⟨0, Nat.zero_le _, rfl, World.ownsRow_nil _ _ _ _, Below.refl _ _⟩
  case round =>
    rename_i c i
    obtain ⟨k, hk, rfl, hown, hbl⟩ := hrel
    obtain ⟨a1, c1, rfl, _, _, _⟩ := own_shape hown
    have HO := hid hown
    have HBl := hid hbl
    clear hown hbl
    by_cases hlt : k < l.length
    · rcases HZ.out with h0 | ⟨b, off, rfl, hcell⟩
      · omega
      have hb := World.block_lt_of_cell? _ _ (hcell k hlt)
      have hck := (HBl.out.cell (p := ⟨b, off + k, none⟩) hb).trans (hcell k hlt)
      have hx := HB.out.byt.bd k
      have hts := hid (take_snoc hlt)
      clear hcell
      generalize hg : gt l k = x at *
      clear hg
      go_wp2_with (at_builtin; refine wpList_append_bytes rfl _ _ 22 rfl w.heap.size 5 i0 _ Try.underlying22 hi hz0 hz1 hz2 rfl (.slice a1 k c1) _ _ rfl (HO.out.alloc _) _ [x] rfl (Rb.new (Byt.one hx.1 hx.2) (heap_alloc_new wr _) rfl rfl (by unfold maxLen; omega)) (by simp; omega) (by have := HBl.out.size; simp; omega) ?_; intro a2 c2 w2 ho hg2 hat)
      go_roundw
      case rel =>
        refine ⟨k + 1, by omega, by go_num, ?_, ((HBl.out.alloc HBl.out.size _).grown hg2 (by have := HBl.out.size; simp; omega) fun g hgb => (HO.out.lt g hgb).1)⟩
        rw [hts.out, bts_append]
        exact ho
      case measure => (simp [intOf]) <;> omega
    · have hkl : k = l.length := by omega
      subst hkl
      go_wp2
      go_ret
      refine ⟨_, rfl, ?_, HBl.out⟩
      have := HO.out
      rwa [List.take_length] at this

/-! ### string(b) -/
theorem run_bytes_str {P : Program} (w : World) (src e dst : TypeId) (hs : P.underlying src = some (.slice e)) (he : P.underlying e = some (.int .u8)) (hd : P.underlying dst = some .string) (v : Value) (l : List Int) (h : Rb w v l) :
    (convert src dst v).run P w = .ok (.string (strOfNums l)) w := by
  obtain ⟨_, a, cap, rfl, h1, _, h3, h4⟩ := h
  by_cases hl : l = []
  · subst hl
    cases a with
    | none => exact run_convert_bytes_nil w src e hs he _ _ dst hd
    | some ad =>
      rw [run_convert_bytes_string w src dst e _ _ cap hs he hd]
      rfl
  · obtain ⟨b, off, rfl, _⟩ := h4 0 (List.length_pos_iff.2 hl)
    exact run_convert_bytes_arg w src e hs he b off _ cap l rfl (fun j hj => by
      obtain ⟨b', off', e', hc⟩ := h4 j hj
      simp only [Option.some.injEq, Addr.mk.injEq, and_true] at e'
      obtain ⟨rfl, rfl⟩ := e'
      exact hc) dst hd
theorem strOfNums_inj {l m : List Int} (hl : Byt l) (hm : Byt m) : strOfNums l = strOfNums m ↔ l = m := by
  constructor
  · intro h
    have h1 := congrArg (fun s => s.data.toList) h
    simp only [strOfNums_data] at h1
    have key : ∀ (l m : List Int), Byt l → Byt m → l.map (fun n => UInt8.ofNat n.toNat) = m.map (fun n => UInt8.ofNat n.toNat) → l = m := by
      intro l
      induction l with
      | nil => intro m _ _ h; cases m with
        | nil => rfl
        | cons y m => simp at h
      | cons x l ih => intro m hl hm h; cases m with
        | nil => simp at h
        | cons y m =>
          simp only [List.map_cons, List.cons.injEq] at h
          have hx := hl x (by simp)
          have hy := hm y (by simp)
          have e : x = y := by
            have := congrArg UInt8.toNat h.1
            simp only [UInt8.toNat_ofNat'] at this
            omega
          rw [e, ih m (fun z hz => hl z (by simp [hz])) (fun z hz => hm z (by simp [hz])) h.2]
    exact key l m hl hm h1
  · intro h; rw [h]
set_option maxHeartbeats 400000 in
theorem same_any (v u : Value) (l m : List Int) (w : World) (hv : Rb w v l) (hu : Rb w u m) : Calls Try.prog 20 #[v, u] w fun en w' => en = .returned (.bool (decide (l = m))) ∧ w' = w := by
  have e1 := run_bytes_str (P := Try.prog) w 22 5 9 Try.underlying22 Try.underlying5 Try.underlying9 v l hv
  have e2 := run_bytes_str (P := Try.prog) w 22 5 9 Try.underlying22 Try.underlying5 Try.underlying9 u m hu
  have hI := strOfNums_inj hv.byt hu.byt
  have HI := hid hI
  clear hI hv hu
  go_enter Try.func20, Try.ntmps20
  go_wp2
  go_ret
  refine ⟨?_, rfl⟩
  have e3 : ((strOfNums l).toList == (strOfNums m).toList) = decide (l = m) := by
    rw [Bool.eq_iff_iff]
    simp only [beq_iff_eq, decide_eq_true_eq]
    rw [← HI.out]
    constructor
    · intro h
      rw [ByteArray.toList_eq, ByteArray.toList_eq] at h
      exact WideShapes.bytes_inj h
    · intro h; rw [h]
  exact congrArg (fun b => Ending.returned (.bool b)) e3

end Go.Proofs.Ytniiigidedcpaaa
