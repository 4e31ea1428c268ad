/-
  WireNumbers: whatever the bytes, the place and the number, the call answers true and leaves what was there as it was.
-/
import Derived.Test.YtniiigidedcpaaaL02B
import Derived.Test.YtniiigidedcpaaaRegion
namespace Go.Proofs.Ytniiigidedcpaaa
open Go.RowKit

theorem rnum_cast {P : Program} {f : FuncId} {args : Array Value} {k : IntKind} {ρ : Nat → Nat} {i rb : Nat} {l : List Int} {e : Int} {n : Nat} {w : World} (h : Calls P f args w (RNumPost k ρ i rb l e n w)) {x : Int} {l' : List Int} {e' : Int}
    (hx : bev (takeL l e n) = x) (hl : restL l e n = l') (he : takeE l e n = e') : Calls P f args w fun en w' => en = .returned (.int k x) ∧ IsR ρ i w' rb l' e' ∧ FrO ρ i w w' :=
  h.mono fun en w' hp => by
    obtain ⟨h1, h2, h3, _⟩ := hp
    subst hx; subst hl; subst he
    exact ⟨h1, h2, h3⟩

theorem takeL_ok {l : List Int} {n : Nat} (h : n ≤ l.length) : takeL l 0 n = l.take n := by simp [takeL]; omega
theorem restL_ok {l : List Int} {n : Nat} (h : n ≤ l.length) : restL l 0 n = l.drop n := by simp [restL]; omega
theorem takeE_ok {l : List Int} {n : Nat} (h : n ≤ l.length) : takeE l 0 n = 0 := by simp [takeE]; omega
theorem rnum_ok {P : Program} {f : FuncId} {args : Array Value} {k : IntKind} {ρ : Nat → Nat} {i rb : Nat} {l : List Int} {n : Nat} {w : World} (h : Calls P f args w (RNumPost k ρ i rb l 0 n w)) (hn : n ≤ l.length) {x : Int} {l' : List Int}
    (hx : bev (l.take n) = x) (hl : l.drop n = l') : Calls P f args w fun en w' => en = .returned (.int k x) ∧ IsR ρ i w' rb l' 0 ∧ FrO ρ i w w' :=
  rnum_cast h (by rw [takeL_ok hn]; exact hx) (by rw [restL_ok hn]; exact hl) (takeE_ok hn)

theorem drop_four {m : List Int} {k : Nat} (h : k + 4 ≤ m.length) : m.drop k = gt m k :: gt m (k + 1) :: gt m (k + 2) :: gt m (k + 3) :: m.drop (k + 4) := by
  rw [List.drop_eq_getElem_cons (by omega), List.drop_eq_getElem_cons (by omega), List.drop_eq_getElem_cons (by omega), List.drop_eq_getElem_cons (by omega)]
  rw [gt_eq (by omega), gt_eq (by omega), gt_eq (by omega), gt_eq (by omega)]

def NumbersRel (w0 : World) (i : Value) (wr : World) : Prop := ∃ k : Nat, k ≤ 401 ∧ i = .int .i64 k ∧ ∃ ρ, Cx w0 ρ wr

/-- the two bytes that Put16 lays, and the others -/
theorem put16_ok {m : List Int} {k : Nat} {v : Int} (hk : k + 2 ≤ m.length) : (put16L m 0 k v).length = m.length ∧ gt (put16L m 0 k v) k = v / 256 ∧ gt (put16L m 0 k v) (k + 1) = v % 256 ∧
    (put16L m 0 k v).take k = m.take k ∧ (put16L m 0 k v).drop (k + 2) = m.drop (k + 2) := by
  have e : put16L m 0 k v = (m.set k (v / 256)).set (k + 1) (v % 256) := by
    rw [put16L, if_neg (by omega), Int.toNat_natCast]
  rw [e]
  refine ⟨by simp, ?_, ?_, ?_, ?_⟩
  · rw [gt_eq (by simp; omega), List.getElem_set_ne (by omega), List.getElem_set_self]
  · rw [gt_eq (by simp; omega), List.getElem_set_self]
  · rw [List.take_set_of_le (by omega), List.take_set_of_le (by omega)]
  · rw [List.drop_set_of_lt (by omega), List.drop_set_of_lt (by omega)]

set_option maxHeartbeats 6400000 in
set_option maxRecDepth 20000 in
theorem numbers_any (bv : Value) (l : List Int) (at_ v : Int) (w : World) (h : Rb w bv l) (ha0 : -9223372036854775808 ≤ at_) (ha1 : at_ ≤ 9223372036854775807) (hv0 : 0 ≤ v) (hv1 : v ≤ 65535) :
    Calls Try.prog 3 #[bv, .int .i64 at_, .int .u16 v] w (AlivePost w) := by
  obtain ⟨i0, hi, hz0, hz1, hz2⟩ := info_parts Try.info5
  obtain ⟨a, cap, rfl, hc, hm, _⟩ := h.open
  unfold maxLen at hm
  obtain ⟨m, hm1, hmb, hm400, hmc⟩ : ∃ m : List Int, ((400 < l.length ∧ m.length = 400) ∨ (¬ 400 < l.length ∧ m = l)) ∧ Rb w (.slice a m.length cap) m ∧ m.length ≤ 400 ∧ m.length ≤ cap := by
    by_cases hl : 400 < l.length
    · have e : (l.take 400).length = 400 := by simp; omega
      exact ⟨l.take 400, Or.inl ⟨hl, e⟩, by rw [e]; exact h.front 400 (by omega), by omega, by omega⟩
    · exact ⟨l, Or.inr ⟨hl, rfl⟩, h, by omega, hc⟩
  have HB := hid hmb
  obtain ⟨a', cap', e', _, _, hz⟩ := hmb.open
  simp only [Value.slice.injEq, true_and] at e'
  obtain ⟨rfl, rfl⟩ := e'
  have HZ := hid hz
  clear h hz hmb
  rcases hm1 with ⟨hlen, h4⟩ | ⟨hlen, rfl⟩
  all_goals
    try have hcut := fun W => run_slice_h_sub (P := Try.prog) 22 5 Try.underlying22 hi hz1 a l.length cap .i64 400 m.length (by rw [h4]; rfl) (by omega) W
    try clear h4
    try have hd1 : decide ((400 : Int) < (l.length : Int)) = true := by simp; omega
    try have hd2 : decide ((400 : Int) < (m.length : Int)) = false := by simp; omega
    go_enter Try.func3, Try.ntmps3
    go_wp2_with fail
    refine (alive_any _).mono ?_
    rintro en w1 ⟨rfl, hb1⟩
    have C1 := hid ((Cx.refl w).more hb1)
    clear hb1
    go_wp2_with fail
    go_loopw [7] (fun i wr => NumbersRel w i wr) (fun i _ => 401 - (intOf i).toNat)
    case atStart => exact ⟨0, by omega, rfl, _, C1.out⟩
    case round =>
      obtain ⟨k, hk, rfl, ρ, hC⟩ := hrel
      have C := hid hC
      clear hC
      by_cases hlt : k + 4 ≤ m.length
      · have hlt' : (k : Int) + 4 ≤ m.length := by omega
        have hsl := fun W => run_slice_l_sub (P := Try.prog) 22 5 Try.underlying22 hi hz1 a m.length cap .i64 k k rfl (by omega) W
        have hs1 := hid (HB.out.back k (by omega))
        rcases HZ.out with h0 | ⟨b, off, rfl, hcell⟩
        · omega
        have hb := World.block_lt_of_cell? _ _ (hcell 0 (by omega))
        have k0 := hcell k (by omega)
        have k1 := hcell (k + 1) (by omega)
        have g0 := HB.out.byt.bd k
        have g1 := HB.out.byt.bd (k + 1)
        have g2 := HB.out.byt.bd (k + 2)
        have g3 := HB.out.byt.bd (k + 3)
        have hd4 := drop_four hlt
        clear hcell
        generalize gt m k = x0 at *
        generalize gt m (k + 1) = x1 at *
        generalize gt m (k + 2) = x2 at *
        generalize gt m (k + 3) = x3 at *
        have HD := hid hd4
        clear hd4
        go_wp2_with fail
        refine (own_any _ (m.drop k) _ (hs1.out.below C.out.bel) (by simp; omega)).mono ?_
        rintro en w2 ⟨v2, rfl, ho, hb2⟩
        have V2 := hid (Rb.of_own (HB.out.byt.drop k) ho)
        have C2 := hid (C.out.more hb2)
        clear ho hb2
        go_wp2_with fail
        refine (newReader_any ρ 2 _ (m.drop k) _ V2.out (by simp; omega)).mono ?_
        rintro en w3 ⟨r3, rfl, _, hR, hb3⟩
        obtain ⟨ρ3, C3, R3⟩ : ∃ ρ3, Hid (Cx w ρ3 w3) ∧ Hid (IsR ρ3 2 w3 r3 (x0 :: x1 :: x2 :: x3 :: m.drop (k + 4)) 0) := ⟨_, hid (C2.out.grow hb3 2), hid (by rw [← HD.out]; exact hR)⟩
        clear hR hb3
        go_wp2_with fail
        refine (own_any _ (m.drop k) _ (hs1.out.below C3.out.bel) (by simp; omega)).mono ?_
        rintro en w4 ⟨v4, rfl, ho, hb4⟩
        have V4 := hid (Rb.of_own (HB.out.byt.drop k) ho)
        have C4 := hid (C3.out.more hb4)
        have R4 := hid (R3.out.below hb4)
        clear ho hb4
        go_wp2_with fail
        refine (newReader_any ρ3 3 _ (m.drop k) _ V4.out (by simp; omega)).mono ?_
        rintro en w5 ⟨r5, rfl, _, hR, hb5⟩
        obtain ⟨ρ5, C5, R5, Q5⟩ : ∃ ρ5, Hid (Cx w ρ5 w5) ∧ Hid (IsR ρ5 2 w5 r3 (x0 :: x1 :: x2 :: x3 :: m.drop (k + 4)) 0) ∧ Hid (IsR ρ5 3 w5 r5 (x0 :: x1 :: x2 :: x3 :: m.drop (k + 4)) 0) :=
          ⟨_, hid (C4.out.grow hb5 3), hid (R4.out.other (j := 9) (FrO.of_below hb5) (by decide)), hid (by rw [← HD.out]; exact hR)⟩
        clear hR hb5
        go_wp2_with fail
        refine (rnum_ok (rU16_any ρ5 2 r3 _ 0 _ R5.out) (by simp) (x := 256 * x0 + x1) (l' := x2 :: x3 :: m.drop (k + 4)) (by simp [bev]; omega) rfl).mono ?_
        rintro en w6 ⟨rfl, hR, hF⟩
        have C6 := hid (C5.out.step' hF (by decide))
        have R6 := hid hR
        have Q6 := hid (Q5.out.keep hF (by decide))
        clear hR hF
        go_wp2_with fail
        refine (rnum_ok (rU16_any ρ5 2 r3 _ 0 _ R6.out) (by simp) (x := 256 * x2 + x3) (l' := m.drop (k + 4)) (by simp [bev]; omega) rfl).mono ?_
        rintro en w7 ⟨rfl, hR, hF⟩
        have C7 := hid (C6.out.step' hF (by decide))
        have R7 := hid hR
        have Q7 := hid (Q6.out.keep hF (by decide))
        clear hR hF C C2 V2 C3 R3 C4 V4 R4 C5 R5 Q5 C6 R6 Q6 hs1 hsl
        have c0 := (C7.out.bel.cell (p := ⟨b, off + k, none⟩) hb).trans k0
        have c1 := (C7.out.bel.cell (p := ⟨b, off + (k + 1), none⟩) hb).trans k1
        have n0 : (0 : Int) ≤ (k : Int) := by omega
        have n1 : (k : Int) < (m.length : Int) := by omega
        have n2 : (0 : Int) ≤ (k : Int) + 1 := by omega
        have n3 : (k : Int) + 1 < (m.length : Int) := by omega
        have n4 : IntKind.i64.wrap ((k : Int) + 1) = (k : Int) + 1 := IntWalk.i64_in _ (by omega)
        have n5 : ((k : Int) + 1).toNat = k + 1 := by omega
        have s0 : IntKind.u64.wrap x0 = x0 := IntWalk.u64_in _ (by omega)
        have s5 : IntKind.u64.wrap x1 = x1 := IntWalk.u64_in _ (by omega)
        have s1 : IntKind.u64.wrap (256 * x0) = 256 * x0 := IntWalk.u64_in _ (by omega)
        have s2 : IntKind.u64.wrap (256 * x0 + x1) = 256 * x0 + x1 := IntWalk.u64_in _ (by omega)
        have s6 : IntKind.u64.wrap (256 * x2 + x3) = 256 * x2 + x3 := IntWalk.u64_in _ (by omega)
        have s3 : IntKind.u64.wrap (65536 * (256 * x0 + x1)) = 65536 * (256 * x0 + x1) := IntWalk.u64_in _ (by omega)
        have s4 : IntKind.u64.wrap (65536 * (256 * x0 + x1) + (256 * x2 + x3)) = 65536 * (256 * x0 + x1) + (256 * x2 + x3) := IntWalk.u64_in _ (by omega)
        go_wp2_with fail
        refine wp_region_canon ((0, false) :: (1, false) :: (2, false) :: (3, false) :: (4, false) :: (5, false) :: (6, false) :: (7, false) :: (8, false) :: (9, false) :: (10, false) :: (11, false) :: (12, false) :: (13, false) :: (14, false) :: (15, false) :: (16, false) :: (17, false) :: (20, false) :: (21, false) :: (22, false) :: (23, false) :: (24, false) :: (25, false) :: (18, true) :: (19, false) :: (26, false) :: (27, false) :: (28, false) :: (29, false) :: (31, false) :: (30, true) :: (32, true) :: (33, false) :: (34, false) :: []) (fun w' => w'.cell? ⟨b, off + k, none⟩ = some (.int .u8 x0) ∧ w'.cell? ⟨b, off + (k + 1), none⟩ = some (.int .u8 x1)) (by kernel_rfl) (by kernel_rfl) (fun c a d v w h => by cases d <;> exact h) ?_ ?_
        · exact ⟨c0, c1⟩
        simp only [pick, List.getElem?_cons_succ, List.getElem?_cons_zero]
        (repeat (first | (refine wpD_weak (by rfl) ?_; apply Exists.intro; refine ⟨fun wS hS => ?_, ?_⟩; (focus (obtain ⟨f0, f1⟩ := hS; go_simp; (try with_reducible rfl); done)); simp only [Act.put, List.setIfInBounds_toArray, List.set_cons_zero, List.set_cons_succ]) | (refine wpD_pass (by rfl) ?_; simp only [Act.put, List.setIfInBounds_toArray, List.set_cons_zero, List.set_cons_succ])))
        (refine wpD_strong (by rfl) (fun K hK => ?_); go_simp)
        refine (rnum_ok (rU32_any _ 3 r5 _ 0 _ (Q7.out.same (Same.drew _))) (by simp) (x := 65536 * (256 * x0 + x1) + (256 * x2 + x3)) (l' := m.drop (k + 4)) (by simp [bev]; omega) rfl).mono ?_
        rintro en w8 ⟨rfl, hR, hF⟩
        have C8 := hid ((C7.out.step' ((Same.drew w7).fr ρ5 3) (by decide)).step' hF (by decide))
        have Q8 := hid hR
        have R8 := hid ((R7.out.same (Same.drew _)).keep hF (by decide))
        clear hR hF Q7 R7
        (refine hK _ _ (by exact ⟨(C8.out.bel.cell (p := ⟨b, off + k, none⟩) hb).trans k0, (C8.out.bel.cell (p := ⟨b, off + (k + 1), none⟩) hb).trans k1⟩) ?_; clear hK K; (try simp only [Act.put, List.setIfInBounds_toArray, List.set_cons_zero, List.set_cons_succ]))
        (repeat (first | (refine wpD_weak (by rfl) ?_; apply Exists.intro; refine ⟨fun wS hS => ?_, ?_⟩; (focus (obtain ⟨f0, f1⟩ := hS; go_simp; (try with_reducible rfl); done)); simp only [Act.put, List.setIfInBounds_toArray, List.set_cons_zero, List.set_cons_succ]) | (refine wpD_pass (by rfl) ?_; simp only [Act.put, List.setIfInBounds_toArray, List.set_cons_zero, List.set_cons_succ])))
        (refine wpD_strong (by rfl) (fun K hK => ?_); go_simp)
        refine (rLeft_any _ _ r3 _ _ _ R8.out).mono ?_
        rintro en w9 ⟨rfl, rfl⟩
        (refine hK _ _ (by exact ⟨(C8.out.bel.cell (p := ⟨b, off + k, none⟩) hb).trans k0, (C8.out.bel.cell (p := ⟨b, off + (k + 1), none⟩) hb).trans k1⟩) ?_; clear hK K; (try simp only [Act.put, List.setIfInBounds_toArray, List.set_cons_zero, List.set_cons_succ]))
        (refine wpD_strong (by rfl) (fun K hK => ?_); go_simp)
        refine (rLeft_any _ _ r5 _ _ _ Q8.out).mono ?_
        rintro en w9 ⟨rfl, rfl⟩
        (refine hK _ _ (by exact ⟨(C8.out.bel.cell (p := ⟨b, off + k, none⟩) hb).trans k0, (C8.out.bel.cell (p := ⟨b, off + (k + 1), none⟩) hb).trans k1⟩) ?_; clear hK K; (try simp only [Act.put, List.setIfInBounds_toArray, List.set_cons_zero, List.set_cons_succ]))
        (repeat (first | (refine wpD_weak (by rfl) ?_; apply Exists.intro; refine ⟨fun wS hS => ?_, ?_⟩; (focus (obtain ⟨f0, f1⟩ := hS; go_simp; (try with_reducible rfl); done)); simp only [Act.put, List.setIfInBounds_toArray, List.set_cons_zero, List.set_cons_succ]) | (refine wpD_pass (by rfl) ?_; simp only [Act.put, List.setIfInBounds_toArray, List.set_cons_zero, List.set_cons_succ])))
        refine wpD_nil ?_
        go_wp2_with fail
        go_roundw
        case rel => exact ⟨k + 1, by omega, by go_num, ρ5, C8.out⟩
        case measure => (simp [intOf]) <;> omega
      · have hnl : ¬ ((k : Int) + 4 ≤ m.length) := by omega
        clear hlt
        go_wp2_with fail
        refine (newWriter_any ρ 1 _ _).mono ?_
        rintro en w2 ⟨rfl, hW, hb⟩
        have hlim : limOf m.length = m.length := by unfold limOf; rw [if_neg (by omega), if_neg (by omega)]
        rw [hlim] at hW
        obtain ⟨wb, hwb⟩ : ∃ b, b = wr.heap.size := ⟨_, rfl⟩
        rw [← hwb] at hW ⊢
        obtain ⟨ρ2, C2, W2⟩ : ∃ ρ2, Hid (Cx w ρ2 w2) ∧ Hid (IsW ρ2 1 w2 wb [] m.length 0) := ⟨_, hid (C.out.grow hb 1), hid (by rw [← hwb]; exact hW)⟩
        clear hW hb hwb hlim
        go_wp2_with fail
        refine (own_any _ m _ (HB.out.below C2.out.bel) (by omega)).mono ?_
        rintro en w3 ⟨v3, rfl, ho, hb⟩
        have V3 := hid (Rb.of_own HB.out.byt ho)
        have C3 := hid (C2.out.grow hb 7)
        have W3 := hid (W2.out.other (j' := 7) (FrO.of_below (i := 9) hb) (by decide))
        have L3 := hid (show m ≠ [] → Lab (ext ρ2 w2.heap.size 7) 7 v3 from fun _ b hb' => ext_new (ho.lt b hb').1)
        clear ho hb
        go_wp2_with fail
        refine (wBytes_any _ 1 7 wb [] m m.length 0 v3 _ W3.out V3.out L3.out (by decide) (by omega)).mono ?_
        rintro en w4 ⟨rfl, hW, hF⟩
        have hE : roomE ([] : List Int).length m.length 0 m.length = 0 := by simp [roomE]
        rw [hE] at hW
        obtain ⟨ρ4, C4, W4⟩ : ∃ ρ4, Hid (Cx w ρ4 w4) ∧ Hid (IsW ρ4 1 w4 wb m m.length 0) := ⟨_, hid (C3.out.step hF (by decide) 1), hid (by simpa using hW)⟩
        clear hW hF hE
        by_cases hbad : at_ < 0 ∨ (m.length : Int) - 2 < at_
        · have e1 : put16E m 0 at_ = 1 := by rw [put16E, if_neg (by simp), if_pos hbad]
          have e2 : put16L m 0 at_ v = m := by rw [put16L, if_pos (Or.inr hbad)]
          have E1 := hid e1
          have E2 := hid e2
          clear e1 e2
          go_wp2_with fail
          refine (wPut16_any ρ4 1 wb m _ 0 at_ v _ W4.out ha0 ha1 hv0 hv1).mono ?_
          rintro en w5 ⟨rfl, hW, hF⟩
          obtain ⟨ρ5, C5, W5⟩ : ∃ ρ5, Hid (Cx w ρ5 w5) ∧ Hid (IsW ρ5 1 w5 wb m m.length 1) := ⟨_, hid (C4.out.step hF (by decide) 1), hid (hW.cast E2.out E1.out)⟩
          clear hW hF
          go_wp2_with fail
          refine (wOut_any ρ5 1 wb _ _ _ _ W5.out).mono ?_
          rintro en w6 ⟨v6, rfl, ho, hb⟩
          have C6 := hid (C5.out.more hb)
          have W6 := hid (W5.out.below hb)
          have ho' : w6.ownsRow w5.heap.size 5 1 v6 0 [] := ho
          obtain ⟨a6, c6, rfl, _⟩ := own_shape ho'
          clear ho ho' hb C C2 W2 C3 W3 V3 L3 C4 W4 C5 W5
          by_cases hlo : at_ < 0
          · go_wp2_with (go_at_call 19; refine (wLen_any ρ5 1 wb _ _ _ _ W6.out).mono ?_; rintro en w7 ⟨rfl, rfl⟩)
            go_ret
            exact ⟨rfl, C6.out.bel⟩
          · have hhi : (m.length : Int) - 2 < at_ := by omega
            have hd3 : decide (at_ < 0) = false := by simpa using hlo
            go_wp2_with (go_at_call 19; refine (wLen_any ρ5 1 wb _ _ _ _ W6.out).mono ?_; rintro en w7 ⟨rfl, rfl⟩)
            go_ret
            exact ⟨rfl, C6.out.bel⟩
        · obtain ⟨j, rfl⟩ := Int.eq_ofNat_of_zero_le (by omega : 0 ≤ at_)
          have hj : j + 2 ≤ m.length := by omega
          have e1 : put16E m 0 j = 0 := by rw [put16E, if_neg (by simp), if_neg hbad]
          have E1 := hid e1
          clear e1
          go_wp2_with fail
          refine (wPut16_any ρ4 1 wb m _ 0 j v _ W4.out ha0 ha1 hv0 hv1).mono ?_
          rintro en w5 ⟨rfl, hW, hF⟩
          obtain ⟨ρ5, C5, W5⟩ : ∃ ρ5, Hid (Cx w ρ5 w5) ∧ Hid (IsW ρ5 1 w5 wb (put16L m 0 j v) m.length 0) := ⟨_, hid (C4.out.step hF (by decide) 1), hid (hW.cast rfl E1.out)⟩
          clear hW hF
          obtain ⟨p1, p2, p3, p4, p5⟩ := put16_ok (m := m) (k := j) (v := v) hj
          generalize hM : put16L m 0 j v = M at *
          clear hM
          go_wp2_with fail
          refine (wOut_any ρ5 1 wb _ _ _ _ W5.out).mono ?_
          rintro en w6 ⟨v6, rfl, ho, hb⟩
          have C6 := hid (C5.out.more hb)
          have ho' : w6.ownsRow w5.heap.size 5 1 v6 M.length (bts M) := ho
          have hMb : Byt M := W5.out.2.1
          have V6 := Rb.of_own hMb ho'
          obtain ⟨a6, c6, e6, hc6, hm6, hz6⟩ := V6.open
          rw [p1] at e6 hc6 hz6
          subst e6
          rcases hz6 with h0 | ⟨b6, o6, rfl, hcell⟩
          · omega
          have q0 := hcell j (by omega)
          have q1 := hcell (j + 1) (by omega)
          rw [p2] at q0
          rw [p3] at q1
          have HV6 := hid V6
          have P4 := hid p4
          have P5 := hid p5
          have r1 := fun W => run_slice_h_sub (P := Try.prog) 22 5 Try.underlying22 hi hz1 (some ⟨b6, o6, none⟩) m.length c6 .i64 j j rfl (by omega) W
          have r2 := fun W => run_slice_h_sub (P := Try.prog) 22 5 Try.underlying22 hi hz1 a m.length cap .i64 j j rfl (by omega) W
          have r3 := fun W => run_slice_l_sub (P := Try.prog) 22 5 Try.underlying22 hi hz1 (some ⟨b6, o6, none⟩) m.length c6 .i64 ((j : Int) + 2) (j + 2) (by omega) (by omega) W
          have r4 := fun W => run_slice_l_sub (P := Try.prog) 22 5 Try.underlying22 hi hz1 a m.length cap .i64 ((j : Int) + 2) (j + 2) (by omega) (by omega) W
          have P1 := hid p1
          clear ho ho' hb C C2 W2 C3 W3 V3 L3 C4 W4 C5 W5 hcell p1 p2 p3 p4 p5 V6
          go_wp2_with fail
          refine wp_region_canon ((0, false) :: (1, false) :: (2, false) :: (3, false) :: (4, false) :: (5, false) :: (6, true) :: (7, false) :: (8, false) :: (9, false) :: (10, false) :: (11, false) :: (12, false) :: (13, false) :: (14, false) :: (15, false) :: (16, true) :: (17, false) :: (18, false) :: []) (fun _ => True) (by kernel_rfl) (by kernel_rfl) (fun c a d v w h => by cases d <;> exact h) ?_ ?_
          · trivial
          simp only [pick, List.getElem?_cons_succ, List.getElem?_cons_zero]
          have s9 : IntKind.i64.wrap ((j : Int) + 2) = (j : Int) + 2 := IntWalk.i64_in _ (by omega)
          (repeat (first | (refine wpD_weak (by rfl) ?_; apply Exists.intro; refine ⟨fun wS hS => ?_, ?_⟩; (focus (go_simp; (try with_reducible rfl); done)); simp only [Act.put, List.setIfInBounds_toArray, List.set_cons_zero, List.set_cons_succ]) | (refine wpD_pass (by rfl) ?_; simp only [Act.put, List.setIfInBounds_toArray, List.set_cons_zero, List.set_cons_succ])))
          (refine wpD_strong (by rfl) (fun K hK => ?_); go_simp)
          refine (same_any _ _ (M.take j) (m.take j) _ ((HV6.out.front j (by rw [P1.out]; omega)).same (Same.drew _)) (((HB.out.below C6.out.bel).front j (by omega)).same (Same.drew _))).mono ?_
          rintro en w7 ⟨rfl, rfl⟩
          rw [show decide (M.take j = m.take j) = true from decide_eq_true P4.out]
          (refine hK _ _ (by trivial) ?_; clear hK K; (try simp only [Act.put, List.setIfInBounds_toArray, List.set_cons_zero, List.set_cons_succ]))
          (repeat (first | (refine wpD_weak (by rfl) ?_; apply Exists.intro; refine ⟨fun wS hS => ?_, ?_⟩; (focus (go_simp; (try with_reducible rfl); done)); simp only [Act.put, List.setIfInBounds_toArray, List.set_cons_zero, List.set_cons_succ]) | (refine wpD_pass (by rfl) ?_; simp only [Act.put, List.setIfInBounds_toArray, List.set_cons_zero, List.set_cons_succ])))
          (refine wpD_strong (by rfl) (fun K hK => ?_); go_simp)
          refine (same_any _ _ (M.drop (j + 2)) (m.drop (j + 2)) _ (by have := (HV6.out.back (j + 2) (by rw [P1.out]; omega)).same (Same.drew w6); rw [P1.out] at this; exact this) (((HB.out.below C6.out.bel).back (j + 2) (by omega)).same (Same.drew _))).mono ?_
          rintro en w7 ⟨rfl, rfl⟩
          rw [show decide (M.drop (j + 2) = m.drop (j + 2)) = true from decide_eq_true P5.out]
          (refine hK _ _ (by trivial) ?_; clear hK K; (try simp only [Act.put, List.setIfInBounds_toArray, List.set_cons_zero, List.set_cons_succ]))
          (repeat (first | (refine wpD_weak (by rfl) ?_; apply Exists.intro; refine ⟨fun wS hS => ?_, ?_⟩; (focus (go_simp; (try with_reducible rfl); done)); simp only [Act.put, List.setIfInBounds_toArray, List.set_cons_zero, List.set_cons_succ]) | (refine wpD_pass (by rfl) ?_; simp only [Act.put, List.setIfInBounds_toArray, List.set_cons_zero, List.set_cons_succ])))
          refine wpD_nil ?_
          go_wp2_with fail
          go_ret
          exact ⟨rfl, (C6.out.bel.trans ((Same.drew w6).below _))⟩

end Go.Proofs.Ytniiigidedcpaaa
