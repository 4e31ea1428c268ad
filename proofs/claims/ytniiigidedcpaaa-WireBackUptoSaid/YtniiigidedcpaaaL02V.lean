/-
  WireWrites: whatever the limits and the script, the call answers true and leaves what was there as it was.
-/
import Derived.Test.YtniiigidedcpaaaL02W
import Derived.Test.YtniiigidedcpaaaOps
namespace Go.Proofs.Ytniiigidedcpaaa
open Go.RowKit

/-- two blocks of an array of two pointers -/
def PtrArr (w : World) (b : Nat) (t : TypeId) (x y : Nat) : Prop := w.heap[b]? = some (.cells #[.pointer (some ⟨x, 0, none⟩), .pointer (some ⟨y, 0, none⟩)] t (0, 0))
/-- the state between two calls -/
def WState (w0 : World) (b1 b2 x1 x2 y1 y2 : Nat) (t1 t2 : TypeId) (m1 m2 : Int) (wr : World) : Prop :=
  ∃ ρ l1 e1 l2 e2, Cx w0 ρ wr ∧ PtrArr wr b1 t1 x1 x2 ∧ PtrArr wr b2 t2 y1 y2 ∧ ρ b1 = 7 ∧ ρ b2 = 7 ∧ IsW ρ 1 wr x1 l1 m1 e1 ∧ IsM ρ 2 wr y1 l1 m1 e1 ∧ IsW ρ 3 wr x2 l2 m2 e2 ∧ IsM ρ 4 wr y2 l2 m2 e2

def WRounds (w0 : World) (b1 b2 x1 x2 y1 y2 : Nat) (t1 t2 : TypeId) (m1 m2 : Int) (n : Nat) (i : Value) (wr : World) : Prop := ∃ k : Nat, k ≤ n ∧ i = .int .i64 k ∧ WState w0 b1 b2 x1 x2 y1 y2 t1 t2 m1 m2 wr
/-- the cells of one call of a script -/
def OpCells (w : World) (b o : Nat) (x : Opv) : Prop :=
  w.cell? ⟨b, o, none⟩ = some (.int .i64 x.kd) ∧ w.cell? ⟨b, o + 1, none⟩ = some (.int .i64 x.wh) ∧ w.cell? ⟨b, o + 2, none⟩ = some (.int .i64 x.n) ∧ w.cell? ⟨b, o + 3, none⟩ = some (.int .u32 x.v) ∧ w.cell? ⟨b, o + 4, none⟩ = some x.bv
theorem OpCells.below {w w' : World} {b o : Nat} {x : Opv} (h : OpCells w b o x) (hb : Below w.heap.size w w') : OpCells w' b o x := by
  obtain ⟨h0, h1, h2, h3, h4⟩ := h
  have hlt := World.block_lt_of_cell? _ _ h0
  exact ⟨(hb.cell (p := ⟨b, o, none⟩) hlt).trans h0, (hb.cell (p := ⟨b, o + 1, none⟩) hlt).trans h1, (hb.cell (p := ⟨b, o + 2, none⟩) hlt).trans h2, (hb.cell (p := ⟨b, o + 3, none⟩) hlt).trans h3, (hb.cell (p := ⟨b, o + 4, none⟩) hlt).trans h4⟩

set_option maxHeartbeats 6400000 in
set_option maxRecDepth 20000 in
theorem wireWrites_any (one two : Int) (sv : Value) (ops : List Opv) (w : World) (h : Rops w sv ops) :
    Calls Try.prog 4 #[.int .i64 one, .int .i64 two, sv] w (AlivePost w) := by
  have HR := hid h
  obtain ⟨a, cap, rfl, hc, hm, hz⟩ := h
  unfold maxLen at hm
  have HZ := hid hz
  clear hz
  go_enter Try.func4, Try.ntmps4
  go_wp2_with fail
  refine (alive_any _).mono ?_
  rintro en w1 ⟨rfl, hb1⟩
  have C1 := hid ((Cx.refl w).more hb1)
  clear hb1
  go_wp2_with fail
  refine (newWriter_any (fun _ => 0) 1 one _).mono ?_
  rintro en w2 ⟨rfl, hW, hb⟩
  obtain ⟨x1, hx1⟩ : ∃ b, b = w1.heap.size := ⟨_, rfl⟩
  rw [← hx1] at hW ⊢
  obtain ⟨ρ2, C2, W2⟩ : ∃ ρ2, Hid (Cx w ρ2 w2) ∧ Hid (IsW ρ2 1 w2 x1 [] (limOf one) 0) := ⟨_, hid (C1.out.grow hb 1), hid (by rw [hx1]; rw [hx1] at hW; exact hW)⟩
  clear hW hb hx1
  go_wp2_with fail
  refine (newWriter_any ρ2 3 two _).mono ?_
  rintro en w3 ⟨rfl, hW, hb⟩
  obtain ⟨x2, hx2⟩ : ∃ b, b = w2.heap.size := ⟨_, rfl⟩
  obtain ⟨ρ3, C3, W3, V3⟩ : ∃ ρ3, Hid (Cx w ρ3 w3) ∧ Hid (IsW ρ3 1 w3 x1 [] (limOf one) 0) ∧ Hid (IsW ρ3 3 w3 x2 [] (limOf two) 0) :=
    ⟨_, hid (C2.out.grow hb 3), hid (W2.out.moves (fun k hk _ => hb.block k hk) (fun k hk => ext_old hk)), hid (by rw [hx2]; exact hW)⟩
  rw [← hx2]
  clear hW hb hx2
  go_wp2_with fail
  obtain ⟨b1, hb1⟩ : ∃ b, b = w3.heap.size := ⟨_, rfl⟩
  obtain ⟨ρ4, w4, hw4, C4, W4, V4, A4, L4⟩ : ∃ ρ4 w4, w4 = w3.alloc (.cells #[.pointer (some ⟨x1, 0, none⟩), .pointer (some ⟨x2, 0, none⟩)] 44) ∧ Hid (Cx w ρ4 w4) ∧ Hid (IsW ρ4 1 w4 x1 [] (limOf one) 0) ∧ Hid (IsW ρ4 3 w4 x2 [] (limOf two) 0) ∧ Hid (PtrArr w4 b1 44 x1 x2) ∧ Hid (ρ4 b1 = 7) :=
    ⟨_, _, rfl, hid (C3.out.grow (bel_alloc w3 _) 7), hid (W3.out.moves (fun k hk _ => (bel_alloc w3 _).block k hk) (fun k hk => ext_old hk)), hid (V3.out.moves (fun k hk _ => (bel_alloc w3 _).block k hk) (fun k hk => ext_old hk)), hid (by rw [hb1]; exact heap_alloc_new w3 _), hid (by rw [hb1]; exact ext_new (Nat.le_refl _))⟩
  rw [← hw4, ← hb1]
  clear hw4 hb1 C3 W3 V3 C2 W2
  refine (newMWriter_any ρ4 2 one _).mono ?_
  rintro en w5 ⟨rfl, hM, hb⟩
  obtain ⟨y1, hy1⟩ : ∃ b, b = w4.heap.size := ⟨_, rfl⟩
  rw [← hy1]
  obtain ⟨ρ5, C5, W5, V5, A5, L5, M5⟩ : ∃ ρ5, Hid (Cx w ρ5 w5) ∧ Hid (IsW ρ5 1 w5 x1 [] (limOf one) 0) ∧ Hid (IsW ρ5 3 w5 x2 [] (limOf two) 0) ∧ Hid (PtrArr w5 b1 44 x1 x2) ∧ Hid (ρ5 b1 = 7) ∧ Hid (IsM ρ5 2 w5 y1 [] (limOf one) 0) :=
    ⟨_, hid (C4.out.grow hb 2), hid (W4.out.moves (fun k hk _ => hb.block k hk) (fun k hk => ext_old hk)), hid (V4.out.moves (fun k hk _ => hb.block k hk) (fun k hk => ext_old hk)), hid ((hb.block b1 (lt_of_block A4.out)).trans A4.out), hid ((ext_old (lt_of_block A4.out)).trans L4.out), hid (by rw [hy1]; exact hM)⟩
  clear hM hb hy1 C4 W4 V4 A4 L4
  go_wp2_with fail
  refine (newMWriter_any ρ5 4 two _).mono ?_
  rintro en w6 ⟨rfl, hM, hb⟩
  obtain ⟨y2, hy2⟩ : ∃ b, b = w5.heap.size := ⟨_, rfl⟩
  rw [← hy2]
  obtain ⟨ρ6, C6, W6, V6, A6, L6, M6, N6⟩ : ∃ ρ6, Hid (Cx w ρ6 w6) ∧ Hid (IsW ρ6 1 w6 x1 [] (limOf one) 0) ∧ Hid (IsW ρ6 3 w6 x2 [] (limOf two) 0) ∧ Hid (PtrArr w6 b1 44 x1 x2) ∧ Hid (ρ6 b1 = 7) ∧ Hid (IsM ρ6 2 w6 y1 [] (limOf one) 0) ∧ Hid (IsM ρ6 4 w6 y2 [] (limOf two) 0) :=
    ⟨_, hid (C5.out.grow hb 4), hid (W5.out.moves (fun k hk _ => hb.block k hk) (fun k hk => ext_old hk)), hid (V5.out.moves (fun k hk _ => hb.block k hk) (fun k hk => ext_old hk)), hid ((hb.block b1 (lt_of_block A5.out)).trans A5.out), hid ((ext_old (lt_of_block A5.out)).trans L5.out), hid (M5.out.moves (fun k hk _ => hb.block k hk) (fun k hk => ext_old hk)), hid (by rw [hy2]; exact hM)⟩
  clear hM hb hy2 C5 W5 V5 A5 L5 M5
  obtain ⟨b2, hb2⟩ : ∃ b, b = w6.heap.size := ⟨_, rfl⟩
  have S7 : Hid (WState w b1 b2 x1 x2 y1 y2 44 47 (limOf one) (limOf two) (w6.alloc (.cells #[.pointer (some ⟨y1, 0, none⟩), .pointer (some ⟨y2, 0, none⟩)] 47))) :=
    hid ⟨_, [], 0, [], 0, C6.out.grow (bel_alloc w6 _) 7, ((bel_alloc w6 _).block b1 (lt_of_block A6.out)).trans A6.out, by rw [hb2]; exact heap_alloc_new w6 _, (ext_old (lt_of_block A6.out)).trans L6.out, by rw [hb2]; exact ext_new (Nat.le_refl _),
      W6.out.moves (fun k hk _ => (bel_alloc w6 _).block k hk) (fun k hk => ext_old hk), M6.out.moves (fun k hk _ => (bel_alloc w6 _).block k hk) (fun k hk => ext_old hk), V6.out.moves (fun k hk _ => (bel_alloc w6 _).block k hk) (fun k hk => ext_old hk), N6.out.moves (fun k hk _ => (bel_alloc w6 _).block k hk) (fun k hk => ext_old hk)⟩
  have A7 : Hid (PtrArr (w6.alloc (.cells #[.pointer (some ⟨y1, 0, none⟩), .pointer (some ⟨y2, 0, none⟩)] 47)) b1 44 x1 x2) := hid (((bel_alloc w6 _).block b1 (lt_of_block A6.out)).trans A6.out)
  obtain ⟨p0, p1, z0, z1⟩ := cells2 A7.out
  clear C6 W6 V6 A6 L6 M6 N6
  go_wp2_with fail
  rw [← hb2]
  clear hb2
  go_loopw [9] (fun i wr => WRounds w b1 b2 x1 x2 y1 y2 44 47 (limOf one) (limOf two) ops.length i wr) (fun i _ => ops.length - (intOf i).toNat)
  case atStart => exact ⟨0, Nat.zero_le _, rfl, S7.out⟩
  case round =>
    obtain ⟨k, hk, rfl, hst⟩ := hrel
    have HS := hid hst
    obtain ⟨ρ, l1, e1, l2, e2, C, A1, A2, L1, L2, W, M, V, N⟩ := hst
    have C := hid C
    have A1 := hid A1
    have A2 := hid A2
    have L1 := hid L1
    have L2 := hid L2
    have W := hid W
    have M := hid M
    have V := hid V
    have N := hid N
    obtain ⟨a0, a1, _, _⟩ := cells2 A1.out
    obtain ⟨d0, d1, _, _⟩ := cells2 A2.out
    by_cases hlt : k < ops.length
    · obtain ⟨b, off, rfl, hop⟩ := HZ.out k hlt
      generalize ops.getD k default = x at hop
      have hop' := hop.below C.out.bel
      have GB0 := hid hop.2.2.2.2.2.1
      have HX := hid (show OpCells w b (off + k * 5) x from ⟨hop.1, hop.2.1, hop.2.2.1, hop.2.2.2.1, hop.2.2.2.2.1⟩)
      obtain ⟨g0, g1, g2, g3, g4, g5, gl, _, _, g6, g7⟩ := hop'
      have GB := hid g5
      have GL := hid gl
      have G6 := hid g6
      have G7 := hid g7
      clear g5 gl g6 g7 hop
      rcases (show x.wh % 2 = 0 ∨ x.wh % 2 = 1 by omega) with hp | hp
      ·
        have hpar : bits .and .i64 x.wh 1 = 0 := by rw [i64_and1]; omega
        go_wp2_with fail
        refine wp_region_canon ((0, false) :: (1, false) :: (2, false) :: (3, false) :: (4, false) :: (5, false) :: (6, false) :: (7, false) :: (8, false) :: (9, false) :: (10, true) :: (11, false) :: []) (fun w' => w'.cell? ⟨b1, 0, none⟩ = some (.pointer (some ⟨x1, 0, none⟩)) ∧ w'.cell? ⟨b2, 0, none⟩ = some (.pointer (some ⟨y1, 0, none⟩)) ∧ OpCells w' b (off + k * 5) x) (by kernel_rfl) (by kernel_rfl) (fun c a d v w h => by cases d <;> exact h) ?_ ?_
        · exact ⟨a0, d0, g0, g1, g2, g3, g4⟩
        simp only [pick, List.getElem?_cons_succ, List.getElem?_cons_zero]
        (repeat (first | (refine wpD_weak (by rfl) ?_; apply Exists.intro; refine ⟨fun wS hS => ?_, ?_⟩; (focus (obtain ⟨f0, f1, f2, f3, f4, f5, f6⟩ := hS; go_simp; (try with_reducible rfl); done)); simp only [Act.put, List.setIfInBounds_toArray, List.set_cons_zero, List.set_cons_succ]) | (refine wpD_pass (by rfl) ?_; simp only [Act.put, List.setIfInBounds_toArray, List.set_cons_zero, List.set_cons_succ])))
        (refine wpD_strong (by rfl) (fun K hK => ?_); go_simp)
        refine (writes_any ρ 1 2 x1 y1 _ _ _ x.kd x.wh x.n x.v x.bv x.B _ (W.out.same (Same.drew _)) (M.out.same (Same.drew _)) (by decide) (by decide) (by decide) (GB.out.same (Same.drew _)) GL.out (fun hne b hb => by have := C.out.lab b (GB0.out.lt hne hb); rw [this]; exact ⟨by decide, by decide⟩) (i64_bd G6.out).1 (i64_bd G6.out).2 (u32_bd G7.out).1 (u32_bd G7.out).2).mono ?_
        rintro en w8 ⟨rfl, ρ', l', e', hρ, hW, hM, hF⟩
        have hF' : FrL ρ [1, 2] wr w8 := (FrL.of_same (Same.drew wr)).trans hF (fun _ _ => rfl)
        have C' := hid (C.out.stepL (ρ' := ρ') hF' (by decide) hρ)
        have P1 := hid (show PtrArr w8 b1 _ x1 x2 from (hF'.block b1 (lt_of_block A1.out) (by rw [L1.out]; decide)).trans A1.out)
        have P2 := hid (show PtrArr w8 b2 _ y1 y2 from (hF'.block b2 (lt_of_block A2.out) (by rw [L2.out]; decide)).trans A2.out)
        have S' := hid (show WState w b1 b2 x1 x2 y1 y2 _ _ (limOf one) (limOf two) w8 from ⟨ρ', l', e', l2, e2, C'.out, P1.out, P2.out, (hρ _ (lt_of_block A1.out)).trans L1.out, (hρ _ (lt_of_block A2.out)).trans L2.out, hW, hM, V.out.moves (fun k hk hki => hF'.block k hk (by rw [hki]; decide)) hρ, N.out.moves (fun k hk hki => hF'.block k hk (by rw [hki]; decide)) hρ⟩)
        (refine hK _ _ (by exact ⟨(cells2 P1.out).1, (cells2 P2.out).1, HX.out.below C'.out.bel⟩) ?_; clear hK K; (try simp only [Act.put, List.setIfInBounds_toArray, List.set_cons_zero, List.set_cons_succ]))
        (repeat (first | (refine wpD_weak (by rfl) ?_; apply Exists.intro; refine ⟨fun wS hS => ?_, ?_⟩; (focus (go_simp; (try with_reducible rfl); done)); simp only [Act.put, List.setIfInBounds_toArray, List.set_cons_zero, List.set_cons_succ]) | (refine wpD_pass (by rfl) ?_; simp only [Act.put, List.setIfInBounds_toArray, List.set_cons_zero, List.set_cons_succ])))
        refine wpD_nil ?_
        go_wp2_with fail
        go_roundw
        case rel => exact ⟨k + 1, by omega, by go_num, S'.out⟩
        case measure => (simp [intOf]) <;> omega
      ·
        have hpar : bits .and .i64 x.wh 1 = 1 := by rw [i64_and1]; omega
        go_wp2_with fail
        refine wp_region_canon ((0, false) :: (1, false) :: (2, false) :: (3, false) :: (4, false) :: (5, false) :: (6, false) :: (7, false) :: (8, false) :: (9, false) :: (10, true) :: (11, false) :: []) (fun w' => w'.cell? ⟨b1, 1, none⟩ = some (.pointer (some ⟨x2, 0, none⟩)) ∧ w'.cell? ⟨b2, 1, none⟩ = some (.pointer (some ⟨y2, 0, none⟩)) ∧ OpCells w' b (off + k * 5) x) (by kernel_rfl) (by kernel_rfl) (fun c a d v w h => by cases d <;> exact h) ?_ ?_
        · exact ⟨a1, d1, g0, g1, g2, g3, g4⟩
        simp only [pick, List.getElem?_cons_succ, List.getElem?_cons_zero]
        (repeat (first | (refine wpD_weak (by rfl) ?_; apply Exists.intro; refine ⟨fun wS hS => ?_, ?_⟩; (focus (obtain ⟨f0, f1, f2, f3, f4, f5, f6⟩ := hS; go_simp; (try with_reducible rfl); done)); simp only [Act.put, List.setIfInBounds_toArray, List.set_cons_zero, List.set_cons_succ]) | (refine wpD_pass (by rfl) ?_; simp only [Act.put, List.setIfInBounds_toArray, List.set_cons_zero, List.set_cons_succ])))
        (refine wpD_strong (by rfl) (fun K hK => ?_); go_simp)
        refine (writes_any ρ 3 4 x2 y2 _ _ _ x.kd x.wh x.n x.v x.bv x.B _ (V.out.same (Same.drew _)) (N.out.same (Same.drew _)) (by decide) (by decide) (by decide) (GB.out.same (Same.drew _)) GL.out (fun hne b hb => by have := C.out.lab b (GB0.out.lt hne hb); rw [this]; exact ⟨by decide, by decide⟩) (i64_bd G6.out).1 (i64_bd G6.out).2 (u32_bd G7.out).1 (u32_bd G7.out).2).mono ?_
        rintro en w8 ⟨rfl, ρ', l', e', hρ, hW, hM, hF⟩
        have hF' : FrL ρ [3, 4] wr w8 := (FrL.of_same (Same.drew wr)).trans hF (fun _ _ => rfl)
        have C' := hid (C.out.stepL (ρ' := ρ') hF' (by decide) hρ)
        have P1 := hid (show PtrArr w8 b1 _ x1 x2 from (hF'.block b1 (lt_of_block A1.out) (by rw [L1.out]; decide)).trans A1.out)
        have P2 := hid (show PtrArr w8 b2 _ y1 y2 from (hF'.block b2 (lt_of_block A2.out) (by rw [L2.out]; decide)).trans A2.out)
        have S' := hid (show WState w b1 b2 x1 x2 y1 y2 _ _ (limOf one) (limOf two) w8 from ⟨ρ', l1, e1, l', e', C'.out, P1.out, P2.out, (hρ _ (lt_of_block A1.out)).trans L1.out, (hρ _ (lt_of_block A2.out)).trans L2.out, W.out.moves (fun k hk hki => hF'.block k hk (by rw [hki]; decide)) hρ, M.out.moves (fun k hk hki => hF'.block k hk (by rw [hki]; decide)) hρ, hW, hM⟩)
        (refine hK _ _ (by exact ⟨(cells2 P1.out).2.1, (cells2 P2.out).2.1, HX.out.below C'.out.bel⟩) ?_; clear hK K; (try simp only [Act.put, List.setIfInBounds_toArray, List.set_cons_zero, List.set_cons_succ]))
        (repeat (first | (refine wpD_weak (by rfl) ?_; apply Exists.intro; refine ⟨fun wS hS => ?_, ?_⟩; (focus (go_simp; (try with_reducible rfl); done)); simp only [Act.put, List.setIfInBounds_toArray, List.set_cons_zero, List.set_cons_succ]) | (refine wpD_pass (by rfl) ?_; simp only [Act.put, List.setIfInBounds_toArray, List.set_cons_zero, List.set_cons_succ])))
        refine wpD_nil ?_
        go_wp2_with fail
        go_roundw
        case rel => exact ⟨k + 1, by omega, by go_num, S'.out⟩
        case measure => (simp [intOf]) <;> omega
    · have hkl : k = ops.length := by omega
      subst hkl
      go_wp2_with fail
      refine (writes_any ρ 1 2 x1 y1 _ _ _ 5 0 0 0 _ [] _ W.out M.out (by decide) (by decide) (by decide) (Rb.nil _) (by decide) (fun hne => absurd rfl hne) (by decide) (by decide) (by decide) (by decide)).mono ?_
      rintro en w8 ⟨rfl, ρ', l', e', hρ, hW, hM, hF⟩
      have C' := hid (C.out.stepL (ρ' := ρ') hF (by decide) hρ)
      have P1 := hid (show PtrArr w8 b1 _ x1 x2 from (hF.block b1 (lt_of_block A1.out) (by rw [L1.out]; decide)).trans A1.out)
      have P2 := hid (show PtrArr w8 b2 _ y1 y2 from (hF.block b2 (lt_of_block A2.out) (by rw [L2.out]; decide)).trans A2.out)
      have V' := hid (V.out.moves (ρ' := ρ') (fun k hk hki => hF.block k hk (by rw [hki]; decide)) hρ)
      have N' := hid (N.out.moves (ρ' := ρ') (fun k hk hki => hF.block k hk (by rw [hki]; decide)) hρ)
      obtain ⟨r0, r1, _, _⟩ := cells2 P1.out
      obtain ⟨s0, s1, _, _⟩ := cells2 P2.out
      clear hρ hW hM hF
      go_wp2_with fail
      refine (writes_any ρ' 3 4 x2 y2 _ _ _ 5 0 0 0 _ [] _ V'.out N'.out (by decide) (by decide) (by decide) (Rb.nil _) (by decide) (fun hne => absurd rfl hne) (by decide) (by decide) (by decide) (by decide)).mono ?_
      rintro en w9 ⟨rfl, ρ'', l'', e'', hρ, hW, hM, hF⟩
      have C'' := hid (C'.out.stepL (ρ' := ρ'') hF (by decide) hρ)
      clear hρ hW hM hF
      go_wp2_with fail
      go_ret
      exact ⟨rfl, C''.out.bel⟩

end Go.Proofs.Ytniiigidedcpaaa
