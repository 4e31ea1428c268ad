/-
  Build, the document's.
-/
import Derived.Test.YtebfbpfikbjjlaaDoorBA04
namespace Go.Proofs.YtebfbpfikbjjlaaDoor
open Go.RowKit

/-- k options were taken; n: their bytes together, at most 1000 -/
def C1Rel (w0 : World) (hs : List HOpt) (bv nv t : Value) (wr : World) : Prop :=
  ∃ (k N : Nat) (L : List Int), k ≤ hs.length ∧ t = .int .i64 k ∧ nv = .int .i64 N ∧ N = min (lay ((hs.take k).map HOpt.o)).length 1000 ∧ (∀ o ∈ (hs.take k).map HOpt.o, badO o = false) ∧
    L.length ≤ 40 ∧ (N ≤ 40 → L = lay ((hs.take k).map HOpt.o)) ∧ wr.ownsRow w0.heap.size 5 1 bv L.length (bts L) ∧ Below w0.heap.size w0 wr
/-- behind the append of one byte to the row: the row, the frame, the box -/
theorem stage8 {w wr w8 : World} {a7 a8 : Option Addr} {c7 c8 : Nat} {L : List Int} {x : Int} {bx : Obj} {o : Obj} (hLs : w.heap.size ≤ wr.heap.size ∧ ∀ g, (Value.slice a7 L.length c7).ownBlock = some g → g < wr.heap.size) (_hBs : w.heap.size ≤ wr.heap.size)
    (O : wr.ownsRow w.heap.size 5 1 (.slice a7 L.length c7) L.length (bts L)) (BB : Below w.heap.size w (wr.alloc bx)) (e8 : w8.heap[wr.heap.size]? = some bx)
    (ho8 : w8.ownsRow w.heap.size 5 1 (.slice a8 (L.length + [x].length) c8) (L.length + [x].length) (bts L ++ bts [x])) (hg8 : ((wr.alloc bx).alloc o).grownBy w8 (Value.slice a7 L.length c7).ownBlock)
    (hat8 : ∀ g, (Value.slice a8 (L.length + [x].length) c8).ownBlock = some g → (Value.slice a7 L.length c7).ownBlock = some g ∨ ((wr.alloc bx).alloc o).heap.size ≤ g) :
    w8.ownsRow w.heap.size 5 1 (.slice a8 (L.length + 1) c8) (L.length + 1) (bts (L ++ [x])) ∧ Below w.heap.size w w8 ∧ wr.heap.size < w8.heap.size ∧ w8.heap[wr.heap.size]? = some bx ∧ ∀ g, (Value.slice a8 (L.length + 1) c8).ownBlock = some g → g ≠ wr.heap.size := by
  refine ⟨by rw [bts_append]; exact ho8, (BB.alloc BB.size _).grown hg8 (by simp; omega) fun g hgb => (O.lt g hgb).1, ?_, e8, fun g hg => ?_⟩
  · have := hg8.size; simp at this; omega
  · rcases hat8 g hg with h | h
    · have := hLs.2 g h; omega
    · simp at h; omega
set_option maxHeartbeats 6400000 in
set_option maxRecDepth 20000 in
theorem refBuild_any (sv : Value) (hs : List HOpt) (w : World) (h : Ropt w sv hs) : Calls Tryd.prog 20 #[sv] w (BuildPost (hs.map HOpt.o) w) := by
  obtain ⟨i0, hi, hz0, hz1, hz2⟩ := info_parts Tryd.info5
  have H := hid h
  obtain ⟨a, cap, rfl, hc, hm, _⟩ := h
  unfold maxLen at hm
  go_enter Tryd.func20, Tryd.ntmps20
  go_wp2_with fail
  go_loopw [4, 5, 6] (fun bv nv t wr => C1Rel w hs bv nv t wr) (fun _ _ t _ => hs.length - (intOf t).toNat)
  case atStart => exact ⟨0, 0, [], Nat.zero_le _, rfl, rfl, by simp [lay], by simp, by simp, by simp [lay], World.ownsRow_nil _ _ _ _, Below.refl _ _⟩
  case round =>
    obtain ⟨k, N, L, hk, rfl, rfl, hN, hG, hL40, hL, hO, hB⟩ := hrel
    have HN := hid hN
    have G := hid hG
    have HL := hid hL
    have O := hid hO
    have B := hid hB
    have hN1 : N ≤ 1000 := by omega
    have hBs := hB.size
    obtain ⟨a7, c7, rfl, _, _, _⟩ := own_shape hO
    clear hN hG hL hO hB
    by_cases hlt : k < hs.length
    · obtain ⟨x, hx⟩ : ∃ x, hs[k]? = some x := ⟨hs[k], List.getElem?_eq_getElem hlt⟩
      obtain ⟨b, off, av, cv, rfl, hve, c0', c1', hrb, hlm, hkb⟩ := ropt_at H.out hx
      have c0 := (B.out.cell (World.block_lt_of_cell? _ _ c0')).trans c0'
      have c1 := (B.out.cell (World.block_lt_of_cell? _ _ c1')).trans c1'
      have RX := hid hrb
      have HX := hid hx
      have bad := hid (fun hb => BuildPost.err (w := w) (w' := wr.alloc (.cells #[.int .i64 x.k, .slice av x.l.length cv] 38)) (build_bad (o := x.o) (List.mem_map.2 ⟨x, List.mem_of_getElem? hx, rfl⟩) hb) (B.out.alloc B.out.size _))
      have good := hid (fun hb => good_snoc hx G.out hb)
      have HBD : Hid (badO x.o = (decide (x.k < 1) || decide (255 < x.k) || decide (38 < x.l.length) || (decide (x.k = 1) && decide (0 < x.l.length)))) := hid rfl
      have LS := hid (lay_snoc_len hx)
      have LO : Hid (layO x.o = if x.k = 1 then [1] else x.k :: ((x.l.length : Int) + 2) :: x.l) := hid rfl
      have BB := hid (B.out.alloc B.out.size (.cells #[.int .i64 x.k, .slice av x.l.length cv] 38))
      have O1 := hid (O.out.alloc (.cells #[.int .i64 x.k, .slice av x.l.length cv] 38))
      have e1 := heap_alloc_new wr (.cells #[.int .i64 x.k, .slice av x.l.length cv] 38)
      have hLs := hid (show w.heap.size ≤ wr.heap.size ∧ ∀ g, (Value.slice a7 L.length c7).ownBlock = some g → g < wr.heap.size from ⟨hBs, fun g hg => (O.out.lt g hg).2⟩)
      unfold maxLen at hlm
      clear hx hve hrb c0' c1'
      generalize hkd : x.k = kd at *
      generalize hlx : x.l = d at *
      clear hlx
      generalize hn : d.length = n at *
      have ND := hid hn
      clear hn
      by_cases h1 : kd < 1
      · have hd1 : decide (kd < 1) = true := by simp; omega
        have hf := hid (bad.out (by rw [HBD.out]; simp [h1]))
        clear h1 hkd
        go_wp2_with fail
        go_ret2
        exact hf.out
      · have hd1 : decide (kd < 1) = false := by simp; omega
        by_cases h2 : 255 < kd
        · have hd2 : decide (255 < kd) = true := by simp; omega
          have hf := hid (bad.out (by rw [HBD.out]; simp [h2]))
          clear hkd
          go_wp2_with fail
          go_ret2
          exact hf.out
        · have hd2 : decide (255 < kd) = false := by simp; omega
          by_cases h3 : 38 < n
          · have hd3 : decide ((38 : Int) < (n : Int)) = true := by simp; omega
            have hf := hid (bad.out (by rw [HBD.out]; simp [h3]))
            by_cases h4 : kd = 1
            · subst h4
              have hd4 : decide (0 < n) = true := by simp; omega
              clear hkd
              go_wp2_with fail
              go_ret2
              exact hf.out
            · have hd4 : decide (kd = 1) = false := by simp [h4]
              have hd5 : (kd == 1) = false := by simp [h4]
              clear hkd
              go_wp2_with fail
              go_ret2
              exact hf.out
          · have hd3 : decide ((38 : Int) < (n : Int)) = false := by simp; omega
            by_cases h4 : kd = 1
            · subst h4
              clear hkd
              by_cases h5 : 0 < n
              · have hd5 : decide (0 < n) = true := by simp; omega
                have hf := hid (bad.out (by rw [HBD.out]; simp [h5]))
                go_wp2_with fail
                go_ret2
                exact hf.out
              · have hd5 : decide (0 < n) = false := by simp; omega
                have hf := hid (good.out (by rw [HBD.out]; simp; omega))
                have LL := hid (show lay ((hs.take (k + 1)).map HOpt.o) = lay ((hs.take k).map HOpt.o) ++ [1] by rw [LS.out, LO.out, if_pos rfl])
                by_cases hs40 : N ≤ 39
                · have hm1 : ¬ (1000 : Int) < (N : Int) + 1 := by omega
                  have hd6 : decide ((40 : Int) < (N : Int) + 1) = false := by simp; omega
                  have hLe := HL.out (by omega)
                  have hLlen := hid (show L.length = N by have := HN.out; rw [← hLe] at this; omega)
                  have HLe := hid hLe
                  clear hLe
                  go_wp2_with (at_builtin; go_loud (refine wpList_append_bytes rfl _ _ 22 rfl w.heap.size 5 i0 _ Tryd.underlying22 hi hz0 hz1 hz2 rfl (.slice a7 L.length c7) _ _ rfl (O1.out.alloc _) _ [1] rfl (Rb.new (Byt.one (by omega) (by omega)) (by have := heap_alloc_new (wr.alloc (.cells #[.int .i64 1, .slice av n cv] 38)) (.cells #[.int .u8 1] 5); simpa using this) rfl rfl (by unfold maxLen; omega)) (by simp; omega) (by simp; omega) ?_); intro a8 c8 w8 ho8 hg8 hat8; have e8 := (hg8.block wr.heap.size (by simp; omega) (fun e => by have := hLs.out.2 _ e.symm; omega)).trans ((heap_alloc_old _ _ (by simp)).trans e1); obtain ⟨f0, f1, f2, f3⟩ := cells2 e8)
                  have S := hid (show C1Rel w hs (.slice a8 (L.length + 1) c8) (.int .i64 ((N : Int) + 1)) (.int .i64 ((k : Int) + 1)) w8 from by
                    have e : (lay ((hs.take k).map HOpt.o) ++ [1]).length = N + 1 := by rw [← HLe.out]; simp; exact hLlen.out
                    refine ⟨k + 1, N + 1, L ++ [1], by omega, by go_num, by go_num, by rw [LL.out, e]; omega, hf.out, by simp; have := hLlen.out; omega, fun _ => by rw [LL.out, HLe.out], ?_, (BB.out.alloc BB.out.size _).grown hg8 (by simp; omega) fun g hgb => (O.out.lt g hgb).1⟩
                    rw [bts_append]
                    simpa using ho8)
                  clear ho8 hg8 hat8 e8
                  go_wp2_with fail
                  go_roundw
                  case rel => exact S.out
                  case measure => simp [intOf]; omega
                · have SF : ∀ N' : Nat, N' = min (N + 1) 1000 → C1Rel w hs (.slice a7 L.length c7) (.int .i64 (N' : Int)) (.int .i64 ((k : Int) + 1)) (wr.alloc (.cells #[.int .i64 1, .slice av n cv] 38)) := fun N' hN' =>
                    ⟨k + 1, N', L, by omega, by go_num, rfl, by rw [LL.out, List.length_append]; have := HN.out; simp only [List.length_singleton]; omega, hf.out, hL40, fun h => by omega, O1.out, BB.out⟩
                  by_cases hs1000 : N = 1000
                  · have S := hid (SF 1000 (by omega))
                    clear SF
                    subst hs1000
                    have hm1 : (1000 : Int) < ((1000 : Nat) : Int) + 1 := by omega
                    go_wp2_with fail
                    go_roundw
                    case rel => exact S.out
                    case measure => simp [intOf]; omega
                  · have hm1 : ¬ (1000 : Int) < (N : Int) + 1 := by omega
                    have hd6 : decide ((40 : Int) < (N : Int) + 1) = true := by simp; omega
                    have S := hid (SF (N + 1) (by omega))
                    clear SF
                    go_wp2_with fail
                    go_roundw
                    case rel => exact S.out
                    case measure => simp [intOf]; omega
            · have hd4 : decide (kd = 1) = false := by simp [h4]
              have hd5 : (kd == 1) = false := by simp [h4]
              have hd6 : decide (1 < kd) = true := by simp; omega
              have hf := hid (good.out (by rw [HBD.out]; simp; omega))
              have LL := hid (show lay ((hs.take (k + 1)).map HOpt.o) = lay ((hs.take k).map HOpt.o) ++ kd :: ((n : Int) + 2) :: d by rw [LS.out, LO.out, if_neg h4])
              clear hkd
              by_cases hs40 : N + 2 + n ≤ 40
              · have hm1 : ¬ (1000 : Int) < (N : Int) + 1 := by omega
                have hm2 : ¬ (1000 : Int) < (N : Int) + 1 + 1 + (n : Int) := by omega
                have hd7 : decide ((40 : Int) < (N : Int) + 1 + 1 + (n : Int)) = false := by simp; omega
                have hLe := HL.out (by omega)
                have hLlen := hid (show L.length = N by have := HN.out; rw [← hLe] at this; omega)
                have HLe := hid hLe
                have hLN : L.length ≤ N := by have := hLlen.out; omega
                clear hLe
                have hwr : IntKind.u8.wrap (2 + (n : Int)) = 2 + (n : Int) := IntWalk.u8_in _ (by omega)
                go_wp2_with (first | (at_builtin; refine wpList_append_bytes rfl _ _ 22 rfl w.heap.size 5 i0 _ Tryd.underlying22 hi hz0 hz1 hz2 rfl (.slice a7 L.length c7) _ _ rfl (O1.out.alloc _) _ [kd] rfl (Rb.new (Byt.one (by omega) (by omega)) (by have := heap_alloc_new (wr.alloc (.cells #[.int .i64 kd, .slice av n cv] 38)) (.cells #[.int .u8 kd] 5); simpa using this) rfl rfl (by unfold maxLen; omega)) (by simp; omega) (by simp; omega) ?_; intro a8 c8 w8 ho8 hg8 hat8; have e8 := (hg8.block wr.heap.size (by simp; omega) (fun e => by have := hLs.out.2 _ e.symm; omega)).trans ((heap_alloc_old _ _ (by simp)).trans e1); obtain ⟨f0, f1, f2, f3⟩ := cells2 e8; have S8 := hid (stage8 hLs.out hBs O.out BB.out e8 ho8 hg8 hat8); clear ho8 hg8 hat8 e8) | (at_builtin; refine wpList_append_bytes rfl _ _ 22 rfl w.heap.size 5 i0 _ Tryd.underlying22 hi hz0 hz1 hz2 rfl (.slice a8 (L.length + 1) c8) _ _ rfl (S8.out.1.alloc _) _ [2 + (n : Int)] rfl (Rb.new (Byt.one (by omega) (by omega)) (heap_alloc_new w8 _) rfl rfl (by unfold maxLen; omega)) (by simp; omega) (by have := S8.out.2.1.size; simp; omega) ?_; intro a9 c9 w9 ho9 hg9 hat9; have e9 := (hg9.block wr.heap.size (by have := S8.out.2.2.1; simp; omega) (fun e => S8.out.2.2.2.2 _ e.symm rfl)).trans ((heap_alloc_old w8 _ S8.out.2.2.1).trans S8.out.2.2.2.1); obtain ⟨p0, p1, _, _⟩ := cells2 e9; have B9 : Hid (Below w.heap.size w w9) := hid ((S8.out.2.1.alloc S8.out.2.1.size _).grown hg9 (by have := S8.out.2.1.size; simp; omega) fun g hgb => (S8.out.1.lt g hgb).1); have O9 := hid ho9; clear hg9 hat9 e9 ho9) | (at_builtin; refine wpList_append_bytes rfl _ _ 22 rfl w.heap.size 5 i0 _ Tryd.underlying22 hi hz0 hz1 hz2 rfl (.slice a9 (L.length + 1 + 1) c9) _ _ rfl O9.out _ d rfl (RX.out.below B9.out) (by have := ND.out; simp only [List.length_singleton]; omega) (by have := B9.out.size; omega) ?_; intro a10 c10 w10 ho10 hg10 hat10; have OB := hid (show w10.ownsRow w.heap.size 5 1 (.slice a10 (L.length + 1 + 1 + d.length) c10) (L.length + 1 + 1 + d.length) (bts (L ++ [kd]) ++ bts [2 + (n : Int)] ++ bts d) ∧ Below w.heap.size w w10 from ⟨ho10, B9.out.grown hg10 B9.out.size fun g hgb => (O9.out.lt g hgb).1⟩); clear ho10 hg10 hat10))
                have S := hid (show C1Rel w hs (.slice a10 (L.length + 1 + 1 + d.length) c10) (.int .i64 ((N : Int) + 1 + 1 + (n : Int))) (.int .i64 ((k : Int) + 1)) w10 from by
                  have eL : L ++ kd :: ((n : Int) + 2) :: d = (L ++ [kd]) ++ ([2 + (n : Int)] ++ d) := by simp; omega
                  have el : (L ++ kd :: ((n : Int) + 2) :: d).length = L.length + 1 + 1 + d.length := by simp only [List.length_append, List.length_cons]; omega
                  have h1 := hLlen.out
                  have h2 := ND.out
                  refine ⟨k + 1, N + 2 + n, L ++ kd :: ((n : Int) + 2) :: d, by omega, by go_num, by go_num, ?_, hf.out, by rw [el]; omega, fun _ => by rw [LL.out, HLe.out], ?_, OB.out.2⟩
                  · rw [LL.out, ← HLe.out, el]; omega
                  · rw [el, eL, bts_append (L ++ [kd]) _, bts_append [2 + (n : Int)] d, ← List.append_assoc]
                    exact OB.out.1)
                clear OB
                go_roundw
                case rel => exact S.out
                case measure => simp [intOf]; omega
              · have SF : ∀ N' : Nat, N' = min (N + 2 + n) 1000 → C1Rel w hs (.slice a7 L.length c7) (.int .i64 (N' : Int)) (.int .i64 ((k : Int) + 1)) (wr.alloc (.cells #[.int .i64 kd, .slice av n cv] 38)) := fun N' hN' =>
                  ⟨k + 1, N', L, by omega, by go_num, rfl, by rw [LL.out, List.length_append, List.length_cons, List.length_cons]; have h1 := HN.out; have h2 := ND.out; omega, hf.out, hL40, fun h => by omega, O1.out, BB.out⟩
                by_cases hs1000 : N = 1000
                · have S := hid (SF 1000 (by omega))
                  clear SF
                  subst hs1000
                  have hm1 : (1000 : Int) < ((1000 : Nat) : Int) + 1 := by omega
                  have hm2 : (1000 : Int) < (1000 : Int) + 1 + (n : Int) := by omega
                  go_wp2_with fail
                  go_roundw
                  case rel => exact S.out
                  case measure => simp [intOf]; omega
                · have hm1 : ¬ (1000 : Int) < (N : Int) + 1 := by omega
                  by_cases hs2 : N + 2 + n ≤ 1000
                  · have hm2 : ¬ (1000 : Int) < (N : Int) + 1 + 1 + (n : Int) := by omega
                    have hd7 : decide ((40 : Int) < (N : Int) + 1 + 1 + (n : Int)) = true := by simp; omega
                    have S := hid (show C1Rel w hs (.slice a7 L.length c7) (.int .i64 ((N : Int) + 1 + 1 + (n : Int))) (.int .i64 ((k : Int) + 1)) (wr.alloc (.cells #[.int .i64 kd, .slice av n cv] 38)) from by
                      have := SF (N + 2 + n) (by omega)
                      rwa [show ((N + 2 + n : Nat) : Int) = (N : Int) + 1 + 1 + (n : Int) by omega] at this)
                    clear SF
                    go_wp2_with fail
                    go_roundw
                    case rel => exact S.out
                    case measure => simp [intOf]; omega
                  · have hm2 : (1000 : Int) < (N : Int) + 1 + 1 + (n : Int) := by omega
                    have S := hid (SF 1000 (by omega))
                    clear SF
                    go_wp2_with fail
                    go_roundw
                    case rel => exact S.out
                    case measure => simp [intOf]; omega
    · have hkl : k = hs.length := by omega
      subst hkl
      have ALL := hid (show ∀ o ∈ hs.map HOpt.o, badO o = false by have := G.out; rwa [List.take_length] at this)
      have HN2 := hid (show N = min (lay (hs.map HOpt.o)).length 1000 by have := HN.out; rwa [List.take_length] at this)
      by_cases h40 : 40 < N
      · have hd : decide ((40 : Int) < (N : Int)) = true := by simp; omega
        have hf := hid (BuildPost.err (w := w) (build_long ALL.out (by have := HN2.out; omega)) B.out)
        go_wp2_with fail
        go_ret2
        exact hf.out
      · have hd : decide ((40 : Int) < (N : Int)) = false := by simp; omega
        have HE := hid (show L = lay (hs.map HOpt.o) by rw [HL.out (by omega), List.take_length])
        have hE := hid (build_ok ALL.out (by rw [← HE.out]; exact hL40))
        have S1 := hid (show B3Rel w L (.slice a7 L.length c7) wr from ⟨0, Nat.zero_le _, by simpa using O.out, B.out⟩)
        clear HL O B
        go_wp2_with fail
        go_loopw [4] (fun bv wr => B3Rel w L bv wr) (fun bv _ => padN L.length + L.length - slen bv)
        case atStart => exact S1.out
        case round =>
          clear S1
          obtain ⟨j, hj, hO, hB⟩ := hrel
          obtain ⟨a8, c8, rfl, _, _, _⟩ := own_shape hO
          have hBs2 := hB.size
          have O := hid hO
          have B := hid hB
          clear hO hB
          have hp3 := padN_lt L.length
          by_cases hjl : j < padN L.length
          · have hd : (((L.length + j : Nat) : Int) % 4 != 0) = true := by
              unfold padN at hjl; simp; omega
            go_wp2_with (at_builtin; go_loud (refine wpList_append_bytes rfl _ _ 22 rfl w.heap.size 5 i0 _ Tryd.underlying22 hi hz0 hz1 hz2 rfl (.slice a8 (L.length + j) c8) _ _ rfl (O.out.alloc _) _ [0] rfl (Rb.new (Byt.one (by omega) (by omega)) (heap_alloc_new wr _) rfl rfl (by unfold maxLen; omega)) (by simp; omega) (by simp; omega) ?_); intro a9 c9 w9 ho9 hg9 hat9)
            go_roundw
            case rel =>
              refine ⟨j + 1, by omega, ?_, (B.out.alloc B.out.size _).grown hg9 (by simp; omega) fun g hgb => (O.out.lt g hgb).1⟩
              rw [List.replicate_succ', ← List.append_assoc, bts_append (L ++ List.replicate j 0)]
              exact ho9
            case measure => simp [slen_mk]; omega
          · have hjp : j = padN L.length := by omega
            have hd : (((L.length + j : Nat) : Int) % 4 != 0) = false := by
              rw [hjp]; unfold padN; simp; omega
            have R := hid (show BuildPost (hs.map HOpt.o) w (.returned (.tuple #[.slice a8 (L.length + j) c8, .int .i64 0])) wr from by
              refine ⟨_, by rw [hE.out.1], ?_, B.out⟩
              rw [hE.out.2, ← HE.out, pad_len, ← hjp]
              unfold pad
              rw [← hjp]
              exact O.out)
            clear O B hjp
            go_wp2_with fail
            go_ret2
            exact R.out

end Go.Proofs.YtebfbpfikbjjlaaDoor
