/-
  The writer of package wire: a number is written, its highest byte first.
-/
import Derived.Test.YtaecfcaeopmiaaaDoorU1
namespace Go.Proofs.YtaecfcaeopmiaaaDoor
open Go.RowKit

/-- the k lowest bytes of v, the highest first -/
def be : Nat → Int → List Int
  | 0, _ => []
  | k + 1, v => (v / 256 ^ k % 256) :: be k v
theorem be_length (k : Nat) (v : Int) : (be k v).length = k := by induction k <;> simp [be, *]
theorem be_byt (k : Nat) (v : Int) : Byt (be k v) := by
  induction k with
  | zero => exact Byt.nil
  | succ k ih => intro x hx; simp only [be, List.mem_cons] at hx; rcases hx with rfl | hx
                 · exact ⟨Int.emod_nonneg _ (by decide), by have := Int.emod_lt_of_pos (v / 256 ^ k) (show (0 : Int) < 256 by decide); omega⟩
                 · exact ih x hx

/-- what a call that writes m leaves -/
def PutPost (ρ : Nat → Nat) (i wb : Nat) (l : List Int) (lim e : Int) (m : List Int) (w : World) (en : Ending) (w' : World) : Prop :=
  en = .returned (.tuple #[]) ∧ IsW (ext ρ w.heap.size i) i w' wb (if roomE l.length lim e m.length = 0 then l ++ m else l) lim (roomE l.length lim e m.length) ∧ FrO ρ i w w'

theorem roomE_ok {len lim e n : Int} (h : roomE len lim e n = 0) : e = 0 ∧ n ≤ lim - len := by
  unfold roomE at h
  split at h
  · omega
  · rename_i hn
    refine ⟨h, ?_⟩
    subst h
    simp at hn
    exact hn

theorem room_yes (ρ : Nat → Nat) (i wb : Nat) (l : List Int) (lim e n : Int) (w : World) (h : IsW ρ i w wb l lim e) (hn0 : 0 ≤ n) (hn1 : n ≤ 281474976710656) (hE : roomE l.length lim e n = 0) :
    Calls Tryd.prog 65 #[.pointer (some ⟨wb, 0, none⟩), .int .i64 n] w fun en w' => en = .returned (.bool true) ∧ IsW ρ i w' wb l lim 0 ∧ FrO ρ i w w' ∧ w'.heap.size = w.heap.size :=
  (room_any ρ i wb l lim e n w h hn0 hn1).mono fun en w' hp => by
    obtain ⟨h1, h2, h3, h4⟩ := hp
    rw [hE] at h1 h2
    exact ⟨h1, h2, h3, h4⟩
theorem room_no (ρ : Nat → Nat) (i wb : Nat) (l : List Int) (lim e n : Int) (w : World) (h : IsW ρ i w wb l lim e) (hn0 : 0 ≤ n) (hn1 : n ≤ 281474976710656) (hE : roomE l.length lim e n ≠ 0) :
    Calls Tryd.prog 65 #[.pointer (some ⟨wb, 0, none⟩), .int .i64 n] w fun en w' => en = .returned (.bool false) ∧ IsW ρ i w' wb l lim (roomE l.length lim e n) ∧ FrO ρ i w w' ∧ w'.heap.size = w.heap.size :=
  (room_any ρ i wb l lim e n w h hn0 hn1).mono fun en w' hp => by
    obtain ⟨h1, h2, h3, h4⟩ := hp
    exact ⟨by rw [h1]; simp [hE], h2, h3, h4⟩
/-- the same writer under a labelling that says the same of what was there -/
theorem IsW.relab {ρ ρ' : Nat → Nat} {i : Nat} {w : World} {wb : Nat} {l : List Int} {lim e : Int} (h : IsW ρ i w wb l lim e) (hl : ∀ k, k < w.heap.size → ρ' k = ρ k) : IsW ρ' i w wb l lim e := by
  obtain ⟨h1, h2, h3, h4, h5, ov, h6, h7, h8⟩ := h
  exact ⟨by rw [hl _ (lt_of_block h6)]; exact h1, h2, h3, h4, h5, ov, h6, h7, fun b hb => by rw [hl _ (own_lt h7 hb)]; exact h8 b hb⟩

theorem run_shr_bytes (P : Program) (v : Int) (m : Nat) (hm : m ≤ 3) (W : World) :
    Sem.run P (Op.shift BinOp.shr IntKind.u32 v IntKind.i64 (IntKind.i64.wrap (8 * (m : Int)))) W = .ok (.int .u32 (v / 256 ^ m)) W := by
  have hw : IntKind.i64.wrap (8 * (m : Int)) = 8 * (m : Int) := IntWalk.i64_in _ (by omega)
  rw [hw]
  have hmin : min (8 * (m : Int)).toNat (IntKind.u32).bits = 8 * m := by simp [IntKind.bits]; omega
  unfold Op.shift
  rw [if_neg (by omega)]
  simp only [hmin]
  have h2 : (2 : Int) ^ (8 * m) = 256 ^ m := by rw [Int.pow_mul]; rfl
  rw [h2, Int.fdiv_eq_ediv_of_nonneg _ (Int.pow_nonneg (by decide))]
  rfl

/-- the writer's own block is none of its row's -/
theorem wrow_ne {w : World} {wb g : Nat} {cs : Array Value} {v : Value} {n : Nat} {xs : List Value} (h6 : w.heap[wb]? = some (.cells cs 91 (0, 0))) (h7 : w.ownsRow 0 5 1 v n xs) (hb : v.ownBlock = some g) : g ≠ wb := by
  intro e
  subst e
  rcases h7.2 with ⟨rfl, _⟩ | ⟨g', cap', cur, rfl, _, hg, _⟩
  · simp [Value.ownBlock] at hb
  · simp only [Value.ownBlock, Option.some.injEq] at hb
    subst hb
    have := hg.symm.trans h6
    simp at this
/-- behind an append to its row, made of a byte that was just laid, the writer's block is as it was -/
theorem wblock_grown {w w0 w2 : World} {wb : Nat} {o : Obj} {cs : Array Value} {v : Value} {n : Nat} {xs : List Value} (h6 : w.heap[wb]? = some (.cells cs 91 (0, 0))) (h7 : w.ownsRow 0 5 1 v n xs)
    (h0 : w0.heap = (w.alloc o).heap) (hg : w0.grownBy w2 v.ownBlock) : w2.heap[wb]? = some (.cells cs 91 (0, 0)) := by
  have hlt := lt_of_block h6
  rw [hg.block wb (by rw [h0]; simp; omega) (fun e => wrow_ne h6 h7 e.symm rfl), h0, Below.heap_alloc _ _ _ hlt]
  exact h6
theorem FrO.heap {ρ : Nat → Nat} {i : Nat} {w a b : World} (h : FrO ρ i w a) (ho : b.os = a.os) (ht : b.tape = a.tape) (hp : b.output = a.output) (hh : b.heap = a.heap) : FrO ρ i w b :=
  ⟨ho.trans h.os, ht.trans h.tape, hp.trans h.output, by rw [hh]; exact h.size, fun k hk hi => by rw [hh]; exact h.block k hk hi⟩
/-- what such an append and the store of its answer make of the writer -/
theorem IsW.pushed {ρ : Nat → Nat} {i : Nat} {w w0 w2 : World} {wb : Nat} {l m : List Int} {lim e : Int} {o : Obj} {v v' : Value} {n : Nat}
    (h1 : ρ wb = i) (h2 : Byt l) (h3 : 0 ≤ lim) (h4 : lim ≤ 65575) (h5 : ((l ++ m).length : Int) ≤ lim) (h6 : w.heap[wb]? = some (.cells #[v, .int .i64 lim, .int .i64 e] 91 (0, 0)))
    (h7 : w.ownsRow 0 5 1 v n (bts l)) (h8 : Lab ρ i v) (hm : Byt m) (hw0 : w0.heap = (w.alloc o).heap) (ho0 : w0.os = w.os) (ht0 : w0.tape = w.tape) (hp0 : w0.output = w.output)
    (ho : w2.ownsRow 0 5 1 v' (n + m.length) (bts l ++ bts m)) (hg : w0.grownBy w2 v.ownBlock) (hnew : ∀ g, v'.ownBlock = some g → v.ownBlock = some g ∨ w0.heap.size ≤ g) :
    IsW (ext ρ w.heap.size i) i (w2.setCell ⟨wb, 0, none⟩ v') wb (l ++ m) lim e ∧ FrO ρ i w (w2.setCell ⟨wb, 0, none⟩ v') := by
  have hwb := lt_of_block h6
  have hn : n = l.length := by have := h7.1; rw [bts_length] at this; omega
  have h62 := wblock_grown h6 h7 hw0 hg
  have hne : ∀ g, v'.ownBlock = some g → g ≠ wb := fun g hgb => wrow_ne h62 ho hgb
  refine ⟨⟨by rw [ext_old hwb]; exact h1, h2.append hm, h3, h4, h5, v', heap_store h62 v', ?_, fun g hgb => ?_⟩, ?_⟩
  · rw [bts_append, List.length_append, ← hn]
    exact own_move ho fun b hb _ => Below.heap_setCell _ _ _ _ (hne b hb)
  · rcases hnew g hgb with hv | hlt
    · rw [ext_old (own_lt h7 hv)]; exact h8 g hv
    · exact ext_new (by rw [hw0] at hlt; simp at hlt; omega)
  · refine FrO.trans' ?_ (FrO.setCell h1 _)
    have f1 : FrO ρ i w w0 := (FrO.alloc ρ i w o).heap ho0 ht0 hp0 hw0
    exact f1.trans' (FrO.grown hg h8)

def NumRel (ρ : Nat → Nat) (i wb : Nat) (l : List Int) (lim v : Int) (n : Nat) (w : World) (t : Value) (wr : World) : Prop :=
  ∃ (k : Nat) (d : List Int), k ≤ n ∧ t = .int .i64 ((k : Int) - 1) ∧ d ++ be k v = be n v ∧ IsW (ext ρ w.heap.size i) i wr wb (l ++ d) lim 0 ∧ FrO ρ i w wr

set_option maxHeartbeats 800000 in
theorem wnumber_any (ρ : Nat → Nat) (i wb : Nat) (l : List Int) (lim e v : Int) (n : Nat) (w : World) (h : IsW ρ i w wb l lim e) (hn0 : 1 ≤ n) (hn1 : n ≤ 4) :
    Calls Tryd.prog 64 #[.pointer (some ⟨wb, 0, none⟩), .int .i64 n, .int .u32 v] w (PutPost ρ i wb l lim e (be n v) w) := by
  obtain ⟨i0, hi, hz0, hz1, hz2⟩ := info_parts Tryd.info5
  have hl := be_length n v
  by_cases hE : roomE l.length lim e n = 0
  · have HE := hid hE
    have HL := hid hl
    clear hl
    go_enter Tryd.func64, Tryd.ntmps64
    go_wp2_with (go_at_call 65; refine (room_yes ρ i wb l lim e n w h (by omega) (by omega) HE.out).mono ?_; rintro en w1 ⟨rfl, hW, hF, hS⟩)
    go_loopw [1] (NumRel ρ i wb l lim v n w) (fun t _ => (intOf t + 1).toNat)
    case atStart => exact ⟨n, [], Nat.le_refl _, rfl, rfl, by rw [List.append_nil]; exact hW.relab (fun k hk => ext_old (by omega)), hF⟩
    case round =>
      obtain ⟨k, d, hk, rfl, hd, hWr, hFr⟩ := hrel
      obtain ⟨q1, q2, q3, q4, q5, ov, q6, q7, q8⟩ := hWr
      obtain ⟨a, cap, rfl, hc, hm, _⟩ := own_shape q7
      obtain ⟨c0, c1, c2, f0, f1, f2⟩ := cells3 q6
      unfold maxLen at hm
      simp only [List.length_append] at q7 q5
      have hwb := lt_of_block q6
      have HD := hid hd
      have HW := hid hW
      have Q6 := hid q6
      have Q7 := hid q7
      have Q8 := hid q8
      have Q1 := hid q1
      have HFr := hid hFr
      clear hd q6 q7 q8 q1 hFr hW hS hF h
      cases k with
      | zero =>
        go_wp2
        go_end0
        have hdn : d = be n v := by have := HD.out; simpa [be] using this
        refine ⟨rfl, ?_, HFr.out⟩
        have hE2 : roomE l.length lim e (be n v).length = 0 := by rw [HL.out]; exact HE.out
        rw [if_pos hE2, hE2, ← hdn]
        exact ⟨Q1.out, q2, q3, q4, by rw [List.length_append]; exact q5, _, Q6.out, by rw [List.length_append]; exact Q7.out, Q8.out⟩
      | succ m =>
        rw [show (((m + 1 : Nat) : Int) - 1) = (m : Int) from by omega]
        have hm3 : (m : Int) ≤ 3 := by omega
        have hm0 : (0 : Int) ≤ m := by omega
        have hsh := run_shr_bytes Tryd.prog v m (by omega)
        go_wp2_with fail
        have hw8 : IntKind.u8.wrap (v / 256 ^ m) = v / 256 ^ m % 256 := rfl
        go_region_law ((refine step_append_bytes rfl _ _ 22 rfl 0 5 i0 _ Tryd.underlying22 hi hz0 hz1 hz2 rfl (.slice a (l.length + d.length) cap) _ _ rfl (World.ownsRow.drew (World.ownsRow.alloc Q7.out _)) _ [v / 256 ^ m % 256] rfl (Rb.new (Byt.one (by omega) (by omega)) (heap_alloc_new wr _) rfl rfl (by unfold maxLen; omega)) (by simp; omega) (Nat.zero_le _) ?_; intro a2 cap2 w2 ho hg hat; obtain ⟨d0, d1, d2, g0, g1, g2⟩ := cells3 (wblock_grown Q6.out Q7.out (w0 := (wr.alloc _).drew) rfl hg)))
        all_goals
          go_wp2
          go_roundw
          case rel =>
            have hp := IsW.pushed (m := [v / 256 ^ m % 256]) (lim := lim) (e := 0) Q1.out q2 q3 q4 (by rw [List.length_append, List.length_append]; have := (roomE_ok HE.out).2; have := congrArg List.length HD.out; rw [List.length_append, be_length, be_length] at this; simp; omega) (by have := Q6.out; rwa [List.length_append] at this) Q7.out (by have := Q8.out; rwa [List.length_append] at this) (Byt.one (by omega) (by omega)) (w0 := (wr.alloc _).drew) rfl rfl rfl rfl ho hg hat
            have hsz := HFr.out.size
            refine ⟨m, d ++ [v / 256 ^ m % 256], by omega, by go_num, ?_, ?_, ?_⟩
            · rw [← HD.out]; simp [be]
            · rw [ext_ext hsz, List.append_assoc] at hp; exact hp.1
            · exact HFr.out.trans hp.2
          case measure => (simp [intOf]) <;> omega
  · have hE' := hE
    rw [← hl] at hE'
    have HE := hid hE
    have HE' := hid hE'
    clear hE hE'
    go_enter Tryd.func64, Tryd.ntmps64
    go_wp2_with (go_at_call 65; refine (room_no ρ i wb l lim e n w h (by omega) (by omega) HE.out).mono ?_; rintro en w1 ⟨rfl, hW, hF, hS⟩)
    go_end0
    refine ⟨rfl, ?_, hF⟩
    rw [if_neg HE'.out, hl]
    exact hW.relab (fun k hk => ext_old (by omega))
end Go.Proofs.YtaecfcaeopmiaaaDoor
