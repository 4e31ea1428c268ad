/-
  The statements' own helpers: rest, fitting, ended.
-/
import Derived.Test.YtebfbpfikbjjlaaDoorL04A
namespace Go.Proofs.YtebfbpfikbjjlaaDoor
open Go.RowKit

def RestPost (w : World) (en : Ending) (w' : World) : Prop := ∃ k : Int, en = .returned (.int .i64 k) ∧ 0 ≤ k ∧ k ≤ 254 ∧ w = w'
set_option maxHeartbeats 400000 in
theorem rest_any (n : Int) (w : World) (h0 : -9223372036854775808 ≤ n) (h1 : n ≤ 9223372036854775807) : Calls Tryd.prog 31 #[.int .i64 n, .int .i64 254] w (RestPost w) := by
  by_cases hn : 0 ≤ n
  · have hb : 0 ≤ n % 255 ∧ n % 255 < 255 := by omega
    go_enter Tryd.func31, Tryd.ntmps31
    go_wp2
    go_ret
    exact ⟨n % 255, rfl, hb.1, by omega, rfl⟩
  · obtain ⟨m, hm⟩ : ∃ m : Int, m = n.tmod 255 := ⟨_, rfl⟩
    have hmb : -254 ≤ m ∧ m ≤ 0 := by
      have e : n = -(-n) := by omega
      rw [e, Int.neg_tmod, Int.tmod_eq_emod_of_nonneg (by omega)] at hm
      omega
    have hm' : n.tmod 255 = m := hm.symm
    clear hm
    by_cases hm0 : m < 0
    · have hd : decide (m < 0) = true := decide_eq_true hm0
      have hw : IntKind.i64.wrap (m + 254) = m + 254 := IntWalk.i64_in _ (by omega)
      have hw2 : IntKind.i64.wrap (m + 254 + 1) = m + 254 + 1 := IntWalk.i64_in _ (by omega)
      go_enter Tryd.func31, Tryd.ntmps31
      go_wp2
      go_ret
      exact ⟨m + 254 + 1, rfl, by omega, by omega, rfl⟩
    · have hd : decide (m < 0) = false := decide_eq_false hm0
      go_enter Tryd.func31, Tryd.ntmps31
      go_wp2
      go_ret
      exact ⟨m, rfl, by omega, by omega, rfl⟩

/-! ### fitting -/
def Fits (os : List Opt) : Prop := (∀ o ∈ os, badO o = false) ∧ (lay os).length ≤ 40
def FitPost (w : World) (en : Ending) (w' : World) : Prop := ∃ v hs, en = .returned v ∧ OwnO w.heap.size w' v hs ∧ Below w.heap.size w w' ∧ Fits (hs.map HOpt.o)
def FitRel (w0 : World) (gs : List HOpt) (out n t : Value) (wr : World) : Prop :=
  ∃ (k : Nat) (hs : List HOpt), k ≤ gs.length ∧ t = .int .i64 k ∧ n = .int .i64 ((lay (hs.map HOpt.o)).length : Int) ∧ OwnO w0.heap.size wr out hs ∧ Below w0.heap.size w0 wr ∧ Fits (hs.map HOpt.o)
theorem lay_count (os : List Opt) : os.length ≤ (lay os).length := by
  induction os with
  | nil => simp [lay]
  | cons o os ih =>
    have := layO_len o
    simp only [lay, List.length_append, List.length_cons]
    split at this <;> omega
theorem fits_snoc {hs : List HOpt} {x : HOpt} (h : Fits (hs.map HOpt.o)) (hb : badO x.o = false) (hl : (lay (hs.map HOpt.o)).length + (layO x.o).length ≤ 40) : Fits ((hs ++ [x]).map HOpt.o) := by
  refine ⟨fun o ho => ?_, by rw [List.map_append, lay_append]; simpa [lay] using hl⟩
  rw [List.map_append] at ho
  rcases List.mem_append.1 ho with h1 | h1
  · exact h.1 o h1
  · simp at h1; rw [h1]; exact hb
set_option maxHeartbeats 3200000 in
set_option maxRecDepth 20000 in
theorem fitting_any (v : Value) (gs : List HOpt) (w : World) (h : Ropt w v gs) : Calls Tryd.prog 21 #[v] w (FitPost w) := by
  obtain ⟨i0, hi, hz0, hz1, hz2⟩ := info_parts Tryd.info5
  obtain ⟨i2, hi2, hz20, hz21, hz22⟩ := info_parts info_opt
  have H := hid h
  obtain ⟨a, cap, rfl, hc, hm, _⟩ := h
  unfold maxLen at hm
  go_enter Tryd.func21, Tryd.ntmps21
  go_wp2_with fail
  go_loopw [3, 4, 5] (fun out n t wr => FitRel w gs out n t wr) (fun _ _ t _ => gs.length - (intOf t).toNat)
  case atStart => exact ⟨0, [], Nat.zero_le _, rfl, rfl, OwnO.nil _ _, Below.refl _ _, by simp, by simp [lay]⟩
  case round =>
    obtain ⟨k, hs, hk, rfl, rfl, hO, hB, hF⟩ := hrel
    have O := hid hO
    have B := hid hB
    have FT := hid hF
    have hL40 := hF.2
    have hcnt := lay_count (hs.map HOpt.o)
    rw [List.length_map] at hcnt
    have LA := hid (show ∀ x : HOpt, (lay ((hs ++ [x]).map HOpt.o)).length = (lay (hs.map HOpt.o)).length + (layO x.o).length from fun x => by rw [List.map_append, lay_append]; simp [lay])
    have FS := hid (fun (x : HOpt) => fits_snoc (x := x) hF)
    have hBs := hB.size
    clear hO hB hF
    by_cases hlt : k < gs.length
    · obtain ⟨x, hx⟩ : ∃ x, gs[k]? = some x := ⟨gs[k], List.getElem?_eq_getElem hlt⟩
      obtain ⟨b, off, av, cv, rfl, hve, c0, c1, hrb, hlm, hkb⟩ := ropt_at (H.out.below B.out) hx
      have RX := hid hrb
      obtain ⟨ρ, hR, _, _⟩ := O.out
      have R := hid hR
      unfold maxLen at hlm
      have hcv : x.l.length ≤ cv ∧ cv ≤ 9223372036854775807 := by
        obtain ⟨_, _, e, q1, q2, _⟩ := hrb.open
        unfold maxLen at q2
        simp only [Value.slice.injEq] at e
        omega
      have hbl := World.block_lt_of_cell? _ _ c0
      have hbne : b ≠ wr.heap.size := by simp only at hbl; omega
      have c1' : (wr.alloc (.cells #[.int .i64 0, .slice none 0 0] 38)).heap.size = wr.heap.size + 1 := by simp
      clear hx hve hrb hR c1'
      generalize x.k = kx at *
      generalize x.l = lx at *
      generalize hLL : (lay (hs.map HOpt.o)).length = LL at *
      have HLL := hid hLL
      clear hLL
      go_wp2_with fail
      refine (rest_any _ _ hkb.1 hkb.2).mono ?_
      rintro en w' ⟨r, rfl, hr0, hr1, rfl⟩
      by_cases hr : r = 0
      · subst hr
        by_cases h40 : LL + 1 ≤ 40
        · have hd : decide ((40 : Int) < (LL : Int) + 1) = false := by simp; omega
          have FX := hid (FS.out ⟨1, .slice none 0 0, []⟩ (by decide) (by simpa [layO, HOpt.o] using h40))
          have LX := hid (show (lay ((hs ++ [(⟨1, .slice none 0 0, []⟩ : HOpt)]).map HOpt.o)).length = LL + 1 from LA.out _)
          go_wp2_with (at_builtin; go_loud (refine wpList_append_kept rfl _ _ 23 rfl w.heap.size 38 i2 _ 2 32 Tryd.underlying23 hi2 hz20 hz21 hz22 rfl (by decide) u3 hs.length _ rfl ((R.out.alloc _).alloc _) ⟨wr.heap.size + 1, 0, none⟩ 1 1 (by decide) [.int .i64 1, .slice none 0 0] rfl rfl (new_cells (by have := heap_alloc_new (wr.alloc (.cells #[.int .i64 1, .slice none 0 0] 38)) (.cells #[.int .i64 1, .slice none 0 0] 38); simpa using this)) (by simp [Value.oneCell']) (by unfold maxLen; omega) (by omega) (by simp; omega) ?_); intro g5 c5 w5 ho hat)
          have S := hid (OwnO.push O.out (bel_alloc wr _) hBs (World.ownsRow_nil _ _ _ _) Byt.nil (by decide) ho hat)
          have BB := hid ((B.out.trans ((bel_alloc wr (.cells #[.int .i64 1, .slice none 0 0] 38)).mono hBs)).trans S.out.2)
          clear ho hat
          go_roundw
          case rel => exact ⟨k + 1, _, by omega, by go_num, by rw [LX.out]; go_num, S.out.1, BB.out, FX.out⟩
          case measure => simp [intOf]; omega
        · have hd : decide ((40 : Int) < (LL : Int) + 1) = true := by simp; omega
          have FIN := hid (show FitPost w (.returned u3) (wr.alloc (.cells #[.int .i64 1, .slice none 0 0] 38)) from ⟨_, hs, rfl, O.out.below (bel_alloc _ _), B.out.trans ((bel_alloc _ _).mono hBs), FT.out⟩)
          go_wp2_with fail
          go_ret
          exact FIN.out
      · obtain ⟨q, hq'⟩ : ∃ q : Nat, q = min lx.length 38 := ⟨_, rfl⟩
        have hq := hid hq'
        have hq38 : q ≤ 38 := by omega
        have hql : q ≤ lx.length := by omega
        clear hq'
        have hdk : decide ((1 : Int) < 1 + r) = true := by simp; omega
        obtain ⟨d, hd⟩ : ∃ d, d = lx.take q := ⟨_, rfl⟩
        have DB := hid (show Byt d by rw [hd]; exact RX.out.byt.take _)
        have hdl : d.length = q := by rw [hd]; simp; omega
        have DL := hid hdl
        have hdl38 : d.length ≤ 38 := by omega
        have hslq : ∀ W, Sem.run Tryd.prog (Instr.slice 22 (.slice av lx.length cv) none (some (.int .i64 (q : Int))) none) W = .ok (.slice av q cv) W := fun W =>
          run_slice_h_sub (P := Tryd.prog) 22 5 Tryd.underlying22 hi hz1 av lx.length cv .i64 (q : Int) q rfl (by omega) W
        have RQ := hid (show Rb wr (.slice av q cv) d by rw [hd]; exact RX.out.front q hql)
        clear hd hdl
        have GB := hid (show badO ((1 + r, d) : Opt) = false by simp [badO]; omega)
        have LO := hid (show (layO ((1 + r, d) : Opt)).length = 2 + d.length by rw [layO_len, if_neg (by simp; omega)])
        go_upto_region 8 with fail
        go_cut [7] from 25 to 31 (fun t wc => t = .int .i64 q ∧ wc = wr.alloc (.cells #[.int .i64 (1 + r), .slice none 0 0] 38))
        case first =>
          by_cases h38 : 38 < lx.length
          · have hqe := hid (show (q : Int) = 38 by have := hq.out; omega)
            go_wp2_with fail
            go_meet
            exact ⟨by rw [hqe.out], rfl⟩
          · have hqe := hid (show (q : Int) = lx.length by have := hq.out; omega)
            go_wp2_with fail
            go_meet
            exact ⟨by rw [hqe.out], rfl⟩
        case rest =>
          obtain ⟨rfl, rfl⟩ := hcut
          go_wp2_with fail
          go_region_law ((refine step_append_bytes rfl _ _ 22 rfl (wr.heap.size + 1) 5 i0 _ Tryd.underlying22 hi hz0 hz1 hz2 rfl (.slice none 0 0) 0 [] rfl (World.ownsRow_nil _ _ _ _) _ d rfl ((RQ.out.below (bel_alloc wr (.cells #[.int .i64 (1 + r), .slice none 0 0] 38))).same (Same.drew _)) (by omega) (by simp) ?_; intro a2 c2 w2 ho hg hat; have e2 := (hg.block wr.heap.size (by simp) (by simp [Value.ownBlock])).trans (heap_alloc_new wr (.cells #[.int .i64 (1 + r), .slice none 0 0] 38)); obtain ⟨f0, f1, f2, f3⟩ := cells2 e2))
          all_goals
            rw [Nat.zero_add] at ho
            have ho : w2.ownsRow (wr.heap.size + 1) 5 1 (.slice a2 d.length c2) d.length (bts d) := ho
            obtain ⟨w3, hw3⟩ : ∃ w3, w3 = w2.setCell ⟨wr.heap.size, 1, none⟩ (.slice a2 d.length c2) := ⟨_, rfl⟩
            rw [← hw3]
            have e3 := heap_store (o := 1) e2 (.slice a2 d.length c2)
            rw [← hw3] at e3
            obtain ⟨p0, p1, _, _⟩ := cells2 e3
            have B3 : Hid (Below wr.heap.size wr w3) := hid (by
              rw [hw3]
              exact (((Below.refl _ _).alloc (Nat.le_refl _) _).drew.grown hg (by simp) (fun k hk => by simp [Value.ownBlock] at hk)).setCell (by simp) _)
            have O3 : Hid (w3.ownsRow wr.heap.size 5 1 (.slice a2 d.length c2) d.length (bts d)) := hid (own_base (own_move ho fun g hg' _ => by
              rw [hw3]
              exact Below.heap_setCell _ _ _ _ (fun e => by have := (ho.lt g hg').1; simp only at e; omega)) (by omega))
            have R3 := hid (own_below R.out B3.out)
            have hs3 := B3.out.size
            clear ho hg hat e2 f0 f1 f2 f3 hw3 e3
            by_cases h40 : LL + 2 + d.length ≤ 40
            · have hd1 : decide ((40 : Int) < (LL : Int) + 1 + (q : Int) + 1) = false := by have := DL.out; simp; omega
              have FX := hid (FS.out ⟨1 + r, .slice a2 d.length c2, d⟩ GB.out (by have := LO.out; simp only [HOpt.o]; omega))
              have LX := hid (show (lay ((hs ++ [(⟨1 + r, .slice a2 d.length c2, d⟩ : HOpt)]).map HOpt.o)).length = LL + (2 + d.length) from by rw [LA.out]; simp only [HOpt.o]; rw [LO.out])
              go_wp2_with (at_builtin; go_loud (refine wpList_append_kept rfl _ _ 23 rfl w.heap.size 38 i2 _ 2 32 Tryd.underlying23 hi2 hz20 hz21 hz22 rfl (by decide) u3 hs.length _ rfl (R3.out.alloc _) ⟨w3.heap.size, 0, none⟩ 1 1 (by decide) [.int .i64 (1 + r), .slice a2 d.length c2] rfl rfl (new_cells (heap_alloc_new w3 _)) (by simp [Value.oneCell']) (by unfold maxLen; omega) (by omega) (by simp; omega) ?_); intro g5 c5 w5 ho hat)
              have S := hid (OwnO.push O.out B3.out hBs O3.out DB.out (by omega) ho hat)
              have BB := hid ((B.out.trans (B3.out.mono hBs)).trans S.out.2)
              clear ho hat
              go_roundw
              case rel => exact ⟨k + 1, _, by omega, by go_num, by rw [LX.out]; congr 1; have := DL.out; omega, S.out.1, BB.out, FX.out⟩
              case measure => simp [intOf]; omega
            · have hd1 : decide ((40 : Int) < (LL : Int) + 1 + (q : Int) + 1) = true := by have := DL.out; simp; omega
              have FIN := hid (show FitPost w (.returned u3) w3 from ⟨_, hs, rfl, O.out.below B3.out, B.out.trans (B3.out.mono hBs), FT.out⟩)
              go_wp2_with fail
              go_ret
              exact FIN.out
    · have hkl : k = gs.length := by omega
      subst hkl
      have FIN := hid (show FitPost w (.returned u3) wr from ⟨_, hs, rfl, O.out, B.out, FT.out⟩)
      go_wp2_with fail
      go_ret
      exact FIN.out

end Go.Proofs.YtebfbpfikbjjlaaDoor
