/-
  Build, the program's.
-/
import Derived.Test.YtebfbpfikbjjlaaDoorPA04
namespace Go.Proofs.YtebfbpfikbjjlaaDoor
open Go.RowKit

def BuildPost (os : List Opt) (w : World) (en : Ending) (w' : World) : Prop :=
  ∃ v, en = .returned (.tuple #[v, .int .i64 (buildE os)]) ∧ w'.ownsRow w.heap.size 5 1 v (buildB os).length (bts (buildB os)) ∧ Below w.heap.size w w'
theorem build_bad {os : List Opt} {o : Opt} (h : o ∈ os) (hb : badO o = true) : buildE os = 40 ∧ buildB os = [] := by
  have e : buildE os = 40 := by unfold buildE; rw [if_pos (List.any_eq_true.2 ⟨o, h, hb⟩)]
  exact ⟨e, by unfold buildB; rw [e]; rfl⟩
theorem build_long {os : List Opt} (h : ∀ o ∈ os, badO o = false) (hl : 40 < (lay os).length) : buildE os = 3 ∧ buildB os = [] := by
  have e : buildE os = 3 := by
    unfold buildE
    rw [if_neg (by simp only [List.any_eq_true]; rintro ⟨o, ho, hb⟩; rw [h o ho] at hb; cases hb), if_pos hl]
  exact ⟨e, by unfold buildB; rw [e]; rfl⟩
theorem BuildPost.err {os : List Opt} {w w' : World} {e : Int} (h : buildE os = e ∧ buildB os = []) (hb : Below w.heap.size w w') : BuildPost os w (.returned (.tuple #[.slice none 0 0, .int .i64 e])) w' :=
  ⟨_, by rw [h.1], by rw [h.2]; exact World.ownsRow_nil _ _ _ _, hb⟩
def B1Rel (w0 : World) (hs : List HOpt) (t : Value) (wr : World) : Prop :=
  ∃ k : Nat, k ≤ hs.length ∧ t = .int .i64 k ∧ (∀ o ∈ (hs.take k).map HOpt.o, badO o = false) ∧ Below w0.heap.size w0 wr
theorem take_map_snoc {hs : List HOpt} {k : Nat} {h : HOpt} (hk : hs[k]? = some h) : (hs.take (k + 1)).map HOpt.o = (hs.take k).map HOpt.o ++ [h.o] := by
  obtain ⟨hlt, e⟩ := List.getElem?_eq_some_iff.1 hk
  rw [List.take_succ_eq_append_getElem hlt, e]; simp
theorem good_snoc {hs : List HOpt} {k : Nat} {h : HOpt} (hk : hs[k]? = some h) (hg : ∀ o ∈ (hs.take k).map HOpt.o, badO o = false) (hb : badO h.o = false) : ∀ o ∈ (hs.take (k + 1)).map HOpt.o, badO o = false := by
  rw [take_map_snoc hk]
  intro o ho
  rcases List.mem_append.1 ho with h1 | h1
  · exact hg o h1
  · rw [List.mem_singleton.1 h1]; exact hb
/-- one option that lies at a place, in words of the walk -/
theorem ropt_at {w : World} {a : Option Addr} {n cap k : Nat} {hs : List HOpt} {h : HOpt} (hr : Ropt w (.slice a n cap) hs) (hk : hs[k]? = some h) :
    ∃ b off av cv, a = some ⟨b, off, none⟩ ∧ h.v = .slice av h.l.length cv ∧ w.cell? ⟨b, off + k * 2, none⟩ = some (.int .i64 h.k) ∧ w.cell? ⟨b, off + k * 2 + 1, none⟩ = some (.slice av h.l.length cv) ∧ Rb w (.slice av h.l.length cv) h.l ∧ h.l.length ≤ maxLen ∧ -9223372036854775808 ≤ h.k ∧ h.k ≤ 9223372036854775807 := by
  obtain ⟨a', cap', e, h1, h2, h3⟩ := hr
  simp only [Value.slice.injEq] at e
  obtain ⟨rfl, rfl, rfl⟩ := e
  obtain ⟨b, off, rfl, c0, c1, r, kb⟩ := h3 k h hk
  obtain ⟨av, cv, e, l1, l2, _⟩ := r.open
  exact ⟨b, off, av, cv, rfl, e, c0, by rw [← e]; exact c1, by rw [← e]; exact r, by omega, i64_bd kb⟩
/-- the second loop: k options are laid -/
def B2Rel (w0 : World) (hs : List HOpt) (lg bv t : Value) (wr : World) : Prop :=
  ∃ k : Nat, k ≤ hs.length ∧ t = .int .i64 k ∧ lg = .int .i64 ((lay ((hs.take k).map HOpt.o)).length : Int) ∧ (lay ((hs.take k).map HOpt.o)).length ≤ 40 ∧
    wr.ownsRow w0.heap.size 5 1 bv (lay ((hs.take k).map HOpt.o)).length (bts (lay ((hs.take k).map HOpt.o))) ∧ Below w0.heap.size w0 wr
def B3Rel (w0 : World) (L : List Int) (bv : Value) (wr : World) : Prop :=
  ∃ j : Nat, j ≤ padN L.length ∧ wr.ownsRow w0.heap.size 5 1 bv (L.length + j) (bts (L ++ List.replicate j 0)) ∧ Below w0.heap.size w0 wr
theorem lay_snoc_len {hs : List HOpt} {k : Nat} {h : HOpt} (hk : hs[k]? = some h) : lay ((hs.take (k + 1)).map HOpt.o) = lay ((hs.take k).map HOpt.o) ++ layO h.o := by rw [take_map_snoc hk, lay_snoc]
theorem lay_take_le (hs : List HOpt) (k : Nat) : (lay ((hs.take k).map HOpt.o)).length ≤ (lay (hs.map HOpt.o)).length := by
  have := lay_mono ((hs.take k).map HOpt.o) ((hs.drop k).map HOpt.o)
  rwa [← List.map_append, List.take_append_drop] at this

set_option maxHeartbeats 6400000 in
set_option maxRecDepth 20000 in
theorem build_any (sv : Value) (hs : List HOpt) (w : World) (h : Ropt w sv hs) (hT : Tab w) : Calls Tryd.prog 19 #[sv] w (BuildPost (hs.map HOpt.o) w) := by
  obtain ⟨i0, hi, hz0, hz1, hz2⟩ := info_parts Tryd.info5
  have H := hid h
  have HT := hid hT
  obtain ⟨a, cap, rfl, hc, hm, _⟩ := h
  unfold maxLen at hm
  clear hT
  go_enter Tryd.func19, Tryd.ntmps19
  go_wp2_with fail
  go_loopw [13] (fun t wr => B1Rel w hs t wr) (fun t _ => hs.length - (intOf t).toNat)
  case atStart => exact ⟨0, Nat.zero_le _, rfl, by simp, Below.refl _ _⟩
  case round =>
    obtain ⟨k, hk, rfl, hG, hB⟩ := hrel
    have G := hid hG
    have B := hid hB
    clear hG hB
    have HTw := hid (HT.out.below B.out)
    by_cases hlt : k < hs.length
    · obtain ⟨x, hx⟩ : ∃ x, hs[k]? = some x := ⟨hs[k], List.getElem?_eq_getElem hlt⟩
      obtain ⟨b, off, av, cv, rfl, hve, c0, c1, hrb, hlm, hkb⟩ := ropt_at (H.out.below B.out) hx
      have HX := hid hx
      have bad := hid (fun hb => BuildPost.err (w := w) (w' := wr.alloc (.cells #[.int .i64 x.k, .slice av x.l.length cv] 38)) (build_bad (o := x.o) (List.mem_map.2 ⟨x, List.mem_of_getElem? hx, rfl⟩) hb) (B.out.alloc B.out.size _))
      have good := hid (fun hb => good_snoc hx G.out hb)
      have hbd : badO x.o = (decide (x.k < 1) || decide (255 < x.k) || decide (38 < x.l.length) || (decide (x.k = 1) && decide (0 < x.l.length))) := rfl
      have HBD := hid hbd
      have BB := hid (B.out.alloc B.out.size (.cells #[.int .i64 x.k, .slice av x.l.length cv] 38))
      have HT2 := hid (HT.out.below BB.out)
      unfold maxLen at hlm
      clear hx hve hrb hbd
      generalize x.k = kd at *
      generalize x.l.length = n at *
      by_cases h1 : kd < 1
      · have hd1 : decide (kd < 1) = true := by simp; omega
        have hf := hid (bad.out (by rw [HBD.out]; simp [h1]))
        clear h1
        go_wp2_with fail
        go_ret2
        exact hf.out
      · have hd1 : decide (kd < 1) = false := by simp; omega
        by_cases h2 : 255 < kd
        · have hd2 : decide (255 < kd) = true := by simp; omega
          have hf := hid (bad.out (by rw [HBD.out]; simp [h2]))
          go_wp2_with fail
          go_ret2
          exact hf.out
        · have hd2 : decide (255 < kd) = false := by simp; omega
          by_cases h3 : 38 < n
          · have hd3 : decide ((38 : Int) < (n : Int)) = true := by simp; omega
            have hf := hid (bad.out (by rw [HBD.out]; simp [h3]))
            go_wp2_with fail
            go_ret2
            exact hf.out
          · have hd3 : decide ((38 : Int) < (n : Int)) = false := by simp; omega
            by_cases h4 : kd = 1
            · subst h4
              by_cases h5 : 0 < n
              · have hd5 : decide ((0 : Int) < (n : Int)) = true := by simp; omega
                have hf := hid (bad.out (by rw [HBD.out]; simp [h5]))
                go_wp2_with fail
                refine (shape_1 _ HT2.out).mono ?_
                rintro en w' ⟨rfl, rfl⟩
                go_wp2_with fail
                go_ret2
                exact hf.out
              · have hd5 : decide ((0 : Int) < (n : Int)) = false := by simp; omega
                have hf := hid (good.out (by rw [HBD.out]; simp; omega))
                go_wp2_with fail
                refine (shape_1 _ HT2.out).mono ?_
                rintro en w' ⟨rfl, rfl⟩
                go_wp2_with fail
                go_roundw
                case rel => exact ⟨k + 1, by omega, by go_num, hf.out, BB.out⟩
                case measure => simp [intOf]; omega
            · have hf := hid (good.out (by rw [HBD.out]; simp; omega))
              go_wp2_with fail
              refine (shape_2 _ _ (by omega)).mono ?_
              rintro en w' ⟨rfl, rfl⟩
              go_wp2_with fail
              go_roundw
              case rel => exact ⟨k + 1, by omega, by go_num, hf.out, BB.out⟩
              case measure => simp [intOf]; omega
    · have hkl : k = hs.length := by omega
      subst hkl
      have ALL := hid (show ∀ o ∈ hs.map HOpt.o, badO o = false by have := G.out; rwa [List.take_length] at this)
      have S0 := hid (show B2Rel w hs (.int .i64 0) (.slice none 0 0) (.int .i64 (0 : Nat)) wr from ⟨0, Nat.zero_le _, rfl, by simp [lay], by simp [lay], by simp [lay, bts]; exact World.ownsRow_nil _ _ _ _, B.out⟩)
      clear G B HTw
      go_wp2_with fail
      go_loopw [4, 7, 46] (fun lg bv t wr => B2Rel w hs lg bv t wr) (fun _ _ t _ => hs.length - (intOf t).toNat)
      case atStart => exact S0.out
      case round =>
        clear S0
        obtain ⟨k, hk, rfl, rfl, hL40, hO, hB⟩ := hrel
        obtain ⟨L, hL⟩ : ∃ L, L = lay ((hs.take k).map HOpt.o) := ⟨_, rfl⟩
        rw [← hL] at hL40 hO ⊢
        have HL := hid hL
        have O := hid hO
        have B := hid hB
        have hBs := hB.size
        obtain ⟨a7, c7, rfl, _, _, _⟩ := own_shape hO
        clear hO hB hL
        by_cases hlt : k < hs.length
        · obtain ⟨x, hx⟩ : ∃ x, hs[k]? = some x := ⟨hs[k], List.getElem?_eq_getElem hlt⟩
          obtain ⟨b, off, av, cv, rfl, hve, c0', c1', hrb, hlm, hkb⟩ := ropt_at H.out hx
          have c0 := (B.out.cell (World.block_lt_of_cell? _ _ c0')).trans c0'
          have c1 := (B.out.cell (World.block_lt_of_cell? _ _ c1')).trans c1'
          clear c0' c1'
          have hgood := ALL.out x.o (List.mem_map.2 ⟨x, List.mem_of_getElem? hx, rfl⟩)
          have hbd : badO x.o = (decide (x.k < 1) || decide (255 < x.k) || decide (38 < x.l.length) || (decide (x.k = 1) && decide (0 < x.l.length))) := rfl
          rw [hbd] at hgood
          simp only [Bool.or_eq_false_iff, decide_eq_false_iff_not, Bool.and_eq_false_iff] at hgood
          obtain ⟨⟨⟨g1, g2⟩, g3⟩, g4⟩ := hgood
          have RX := hid hrb
          have LS := hid (lay_snoc_len hx)
          have LE := hid (lay_take_le hs (k + 1))
          have LO : Hid (layO x.o = if x.k = 1 then [1] else x.k :: ((x.l.length : Int) + 2) :: x.l) := hid rfl
          have BB := hid (B.out.alloc B.out.size (.cells #[.int .i64 x.k, .slice av x.l.length cv] 38))
          have HT2 := hid (HT.out.below BB.out)
          have O1 := hid (O.out.alloc (.cells #[.int .i64 x.k, .slice av x.l.length cv] 38))
          have e1 := heap_alloc_new wr (.cells #[.int .i64 x.k, .slice av x.l.length cv] 38)
          clear hx hve hrb hbd hlm
          have hLs := hid (show w.heap.size ≤ wr.heap.size ∧ ∀ g, (Value.slice a7 L.length c7).ownBlock = some g → g < wr.heap.size from ⟨hBs, fun g hg => (O.out.lt g hg).2⟩)
          by_cases h1 : x.k = 1
          · have LL := hid (show lay ((hs.take (k + 1)).map HOpt.o) = L ++ [1] by rw [LS.out, LO.out, if_pos h1, HL.out])
            rw [h1] at c0 e1 BB HT2 O1
            generalize x.l = d at *
            clear LS LO h1
            by_cases hlong : 40 < L.length + 1
            · have hd2 : decide ((40 : Int) < (L.length : Int) + 1) = true := by simp; omega
              have hf := hid (BuildPost.err (w := w) (build_long ALL.out (by have h1 := LE.out; have h2 := congrArg List.length LL.out; simp only [List.length_append, List.length_singleton] at h2; omega)) BB.out)
              go_wp2_with fail
              refine (shape_1 _ HT2.out).mono ?_
              rintro en w' ⟨rfl, rfl⟩
              go_wp2_with fail
              go_ret2
              exact hf.out
            · have hd2 : decide ((40 : Int) < (L.length : Int) + 1) = false := by simp; omega
              go_wp2_with fail
              refine (shape_1 _ HT2.out).mono ?_
              rintro en w' ⟨rfl, rfl⟩
              go_wp2_with (at_builtin; go_loud (refine wpList_append_bytes rfl _ _ 22 rfl w.heap.size 5 i0 _ Tryd.underlying22 hi hz0 hz1 hz2 rfl (.slice a7 L.length c7) _ _ rfl (O1.out.alloc _) _ [1] rfl (Rb.new (Byt.one (by omega) (by omega)) (by have := heap_alloc_new (wr.alloc (.cells #[.int .i64 1, .slice av d.length cv] 38)) (.cells #[.int .u8 1] 5); simpa using this) rfl rfl (by unfold maxLen; omega)) (by simp; omega) (by simp; omega) ?_); intro a8 c8 w8 ho8 hg8 hat8)
              have S := hid (show B2Rel w hs (.int .i64 ((L.length : Int) + 1)) (.slice a8 (L.length + 1) c8) (.int .i64 ((k : Int) + 1)) w8 from by
                have e : (L ++ [1]).length = L.length + 1 := by simp
                refine ⟨k + 1, by omega, by go_num, ?_, ?_, ?_, (BB.out.alloc BB.out.size _).grown hg8 (by simp; omega) fun g hgb => (O.out.lt g hgb).1⟩
                · rw [LL.out, e]; congr 1
                · rw [LL.out, e]; omega
                · rw [LL.out, e, bts_append]; exact ho8)
              clear ho8 hg8 hat8
              go_wp2_with fail
              go_roundw
              case rel => exact S.out
              case measure => simp [intOf]; omega
          · have NE := hid h1
            have hk2 : 2 ≤ x.k := by omega
            generalize hlx : x.l = d at *
            generalize x.k = kd at *
            have hd0 : decide ((0 : Int) < (d.length : Int) + 2) = true := by simp; omega
            have hd1 : decide ((1 : Int) < (d.length : Int) + 2) = true := by simp; omega
            have LL := hid (show lay ((hs.take (k + 1)).map HOpt.o) = L ++ kd :: ((d.length : Int) + 2) :: d by rw [LS.out, LO.out, if_neg NE.out, HL.out])
            clear LS LO hlx h1
            by_cases hlong : 40 < L.length + (2 + d.length)
            · have hd2 : decide ((40 : Int) < (L.length : Int) + (2 + (d.length : Int))) = true := by simp; omega
              have hf := hid (BuildPost.err (w := w) (build_long ALL.out (by have h1 := LE.out; have h2 := congrArg List.length LL.out; simp only [List.length_append, List.length_cons] at h2; omega)) BB.out)
              go_wp2_with fail
              refine (shape_2 _ _ hk2).mono ?_
              rintro en w' ⟨rfl, rfl⟩
              go_wp2_with fail
              go_ret2
              exact hf.out
            · have hd2 : decide ((40 : Int) < (L.length : Int) + (2 + (d.length : Int))) = false := by simp; omega
              go_wp2_with fail
              refine (shape_2 _ _ hk2).mono ?_
              rintro en w' ⟨rfl, rfl⟩
              go_wp2_with (at_builtin; go_loud (refine wpList_append_bytes rfl _ _ 22 rfl w.heap.size 5 i0 _ Tryd.underlying22 hi hz0 hz1 hz2 rfl (.slice a7 L.length c7) _ _ rfl (O1.out.alloc _) _ [kd] rfl (Rb.new (Byt.one (by omega) (by omega)) (by have := heap_alloc_new (wr.alloc (.cells #[.int .i64 kd, .slice av d.length cv] 38)) (.cells #[.int .u8 kd] 5); simpa using this) rfl rfl (by unfold maxLen; omega)) (by simp; omega) (by simp; omega) ?_); intro a8 c8 w8 ho8 hg8 hat8)
              have e8 := (hg8.block wr.heap.size (by simp; omega) (fun e => by have := hLs.out.2 _ e.symm; omega)).trans ((heap_alloc_old _ _ (by simp)).trans e1)
              obtain ⟨f0, f1, f2, f3⟩ := cells2 e8
              have O8 := hid (show w8.ownsRow w.heap.size 5 1 (.slice a8 (L.length + 1) c8) (L.length + 1) (bts (L ++ [kd])) by rw [bts_append]; exact ho8)
              have B8 : Hid (Below w.heap.size w w8) := hid ((BB.out.alloc BB.out.size _).grown hg8 (by simp; omega) fun g hgb => (O.out.lt g hgb).1)
              have RX8 : Hid (Rb w8 (.slice av d.length cv) d) := hid (RX.out.below B8.out)
              have HL8 := hid (show ∀ g, (Value.slice a8 (L.length + 1) c8).ownBlock = some g → g ≠ wr.heap.size from fun g hg => by
                rcases hat8 g hg with h | h
                · have := hLs.out.2 g h; omega
                · simp at h; omega)
              have E8 := hid e8
              have hlt8 := lt_of_block e8
              have hne8 : wr.heap.size ≠ w8.heap.size := by omega
              clear ho8 hg8 hat8 e1 e8
              go_wp2_with fail
              have hwr : IntKind.u8.wrap (2 + (d.length : Int)) = 2 + (d.length : Int) := IntWalk.u8_in _ (by omega)
              go_region_law ((first | (refine step_append_bytes rfl _ _ 22 rfl w.heap.size 5 i0 _ Tryd.underlying22 hi hz0 hz1 hz2 rfl (.slice a8 (L.length + 1) c8) _ _ rfl (World.ownsRow.drew (World.ownsRow.alloc O8.out _)) _ [2 + (d.length : Int)] rfl (Rb.new (Byt.one (by omega) (by omega)) (heap_alloc_new w8 _) rfl rfl (by unfold maxLen; omega)) (by simp; omega) (by have := B8.out.size; simp; omega) ?_; intro a9 c9 w9 ho9 hg9 hat9; have B9 : Hid (Below w.heap.size w w9) := hid (((B8.out.alloc B8.out.size _).drew).grown hg9 (by have := B8.out.size; simp; omega) fun g hgb => (O8.out.lt g hgb).1); have e9 := (hg9.block wr.heap.size (by have := lt_of_block E8.out; simp; omega) (fun e => HL8.out _ e.symm rfl)).trans ((heap_alloc_old w8 _ (lt_of_block E8.out)).trans E8.out); obtain ⟨p0, p1, _, _⟩ := cells2 e9) | (refine step_append_bytes rfl _ _ 22 rfl w.heap.size 5 i0 _ Tryd.underlying22 hi hz0 hz1 hz2 rfl (.slice a9 (L.length + 1 + 1) c9) _ _ rfl ho9 _ d rfl (RX.out.below B9.out) (by simp only [List.length_singleton]; omega) (by have := B9.out.size; omega) ?_; intro a10 c10 w10 ho10 hg10 hat10)))
              all_goals
                have OB := hid (show w10.ownsRow w.heap.size 5 1 (.slice a10 (L.length + 1 + 1 + d.length) c10) (L.length + 1 + 1 + d.length) (bts (L ++ kd :: ((d.length : Int) + 2) :: d)) ∧ Below w.heap.size w w10 from by
                  refine ⟨?_, B9.out.grown hg10 B9.out.size fun g hgb => (ho9.lt g hgb).1⟩
                  rw [show L ++ kd :: ((d.length : Int) + 2) :: d = (L ++ [kd]) ++ ([2 + (d.length : Int)] ++ d) by simp; omega, bts_append (L ++ [kd]) _, bts_append [2 + (d.length : Int)] d, ← List.append_assoc]
                  exact ho10)
                clear ho9 hg9 hat9 ho10 hg10 hat10 e9 p0 p1
                have S := hid (show B2Rel w hs (.int .i64 ((L.length : Int) + (2 + (d.length : Int)))) (.slice a10 (L.length + 1 + 1 + d.length) c10) (.int .i64 ((k : Int) + 1)) w10 from by
                  have e : (L ++ kd :: ((d.length : Int) + 2) :: d).length = L.length + 1 + 1 + d.length := by simp; omega
                  refine ⟨k + 1, by omega, by go_num, ?_, ?_, ?_, OB.out.2⟩
                  · rw [LL.out, e]; congr 1; omega
                  · rw [LL.out, e]; omega
                  · rw [LL.out, e]; exact OB.out.1)
                clear OB
                go_wp2_with fail
                go_roundw
                case rel => exact S.out
                case measure => simp [intOf]; omega
        · have hkl : k = hs.length := by omega
          subst hkl
          have HE := hid (show L = lay (hs.map HOpt.o) by rw [HL.out, List.take_length])
          have hE := hid (build_ok ALL.out (by rw [← HE.out]; exact hL40))
          have S1 := hid (show B3Rel w L (.slice a7 L.length c7) wr from ⟨0, Nat.zero_le _, by simpa using O.out, B.out⟩)
          clear HL O B
          go_wp2_with fail
          go_loopw [7] (fun bv wr => B3Rel w L bv wr) (fun bv _ => padN L.length + L.length - slen bv)
          case atStart => exact S1.out
          case round =>
            clear S1
            obtain ⟨j, hj, hO, hB⟩ := hrel
            obtain ⟨a8, c8, rfl, _, _, _⟩ := own_shape hO
            have hBs2 := hB.size
            have O := hid hO
            have B := hid hB
            clear hO hB
            have hp3 := padN_lt L.length
            by_cases hjl : j < padN L.length
            · have hd : (((L.length + j : Nat) : Int) % 4 != 0) = true := by
                unfold padN at hjl; simp; omega
              go_wp2_with (at_builtin; go_loud (refine wpList_append_bytes rfl _ _ 22 rfl w.heap.size 5 i0 _ Tryd.underlying22 hi hz0 hz1 hz2 rfl (.slice a8 (L.length + j) c8) _ _ rfl (O.out.alloc _) _ [0] rfl (Rb.new (Byt.one (by omega) (by omega)) (heap_alloc_new wr _) rfl rfl (by unfold maxLen; omega)) (by simp; omega) (by simp; omega) ?_); intro a9 c9 w9 ho9 hg9 hat9)
              go_roundw
              case rel =>
                refine ⟨j + 1, by omega, ?_, (B.out.alloc B.out.size _).grown hg9 (by simp; omega) fun g hgb => (O.out.lt g hgb).1⟩
                rw [List.replicate_succ', ← List.append_assoc, bts_append (L ++ List.replicate j 0)]
                exact ho9
              case measure => simp [slen_mk]; omega
            · have hjp : j = padN L.length := by omega
              have hd : (((L.length + j : Nat) : Int) % 4 != 0) = false := by
                rw [hjp]; unfold padN; simp; omega
              have R := hid (show BuildPost (hs.map HOpt.o) w (.returned (.tuple #[.slice a8 (L.length + j) c8, .int .i64 0])) wr from by
                refine ⟨_, by rw [hE.out.1], ?_, B.out⟩
                rw [hE.out.2, ← HE.out, pad_len, ← hjp]
                unfold pad
                rw [← hjp]
                exact O.out)
              clear O B hjp
              go_wp2_with fail
              go_ret2
              exact R.out

end Go.Proofs.YtebfbpfikbjjlaaDoor
