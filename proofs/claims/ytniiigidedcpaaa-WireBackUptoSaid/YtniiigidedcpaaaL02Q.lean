/-
  WireBack: what a script writes is read back in the same order, a byte fewer and a byte more are told.
-/
import Derived.Test.YtniiigidedcpaaaL02K
namespace Go.Proofs.Ytniiigidedcpaaa
open Go.RowKit

theorem limOf_in {n : Int} (h0 : 0 ≤ n) (h1 : n ≤ 65575) : limOf n = n := by unfold limOf; rw [if_neg (by omega), if_neg (by omega)]
/-- the round in which too much is written -/
def BigRel (w0 : World) (wb : Nat) (ops : List Opv) (i : Value) (wr : World) : Prop :=
  ∃ (k : Nat) (ρ : Nat → Nat) (l : List Int) (e : Int), k ≤ ops.length ∧ i = .int .i64 k ∧ Cx w0 ρ wr ∧ IsW ρ 1 wr wb l 65575 e ∧ (e = 3 ∨ (e = 0 ∧ l = cat (ops.take k)))
/-- the round in which all is written -/
def WrRel (w0 : World) (wb : Nat) (ops : List Opv) (i : Value) (wr : World) : Prop :=
  ∃ (k : Nat) (ρ : Nat → Nat), k ≤ ops.length ∧ i = .int .i64 k ∧ Cx w0 ρ wr ∧ IsW ρ 1 wr wb (cat (ops.take k)) (cat ops).length 0
/-- the round in which all is read -/
def RdRel (w0 : World) (rb : Nat) (ops : List Opv) (v12 : Value) (i : Value) (wr : World) : Prop :=
  ∃ (k : Nat) (ρ : Nat → Nat), k ≤ ops.length ∧ i = .int .i64 k ∧ Cx w0 ρ wr ∧ IsR ρ 2 wr rb (cat (ops.drop k)) 0 ∧ wr.ownsRow 0 5 1 v12 (cat ops).length (bts (cat ops)) ∧ Lab ρ 9 v12
/-- what is known of the shorter reader -/
def ShortOk (ops : List Opv) (k : Nat) (l : List Int) (e : Int) : Prop := (cat ops).length = 0 ∨ e = 20 ∨ (e = 0 ∧ l.length + (cat (ops.take k)).length + 1 = (cat ops).length)
def LsRel (w0 : World) (lb sb : Nat) (ops : List Opv) (i : Value) (wr : World) : Prop :=
  ∃ (k : Nat) (ρ : Nat → Nat) (l : List Int) (e : Int), k ≤ ops.length ∧ i = .int .i64 k ∧ Cx w0 ρ wr ∧ IsR ρ 3 wr lb (cat (ops.drop k) ++ [7]) 0 ∧ IsR ρ 4 wr sb l e ∧ ShortOk ops k l e
theorem take_err' {l : List Int} {e : Int} {n : Nat} (h : e ≠ 0) : takeE l e n = e := by simp [takeE, h]
theorem ShortOk.next {ops : List Opv} {k : Nat} {l : List Int} {e : Int} (hk : k < ops.length) (h : ShortOk ops k l e) : ShortOk ops (k + 1) (restL l e (opM (ops.getD k default)).length) (takeE l e (opM (ops.getD k default)).length) := by
  have hct := cat_take hk
  generalize opM (ops.getD k default) = m at *
  rcases h with h | rfl | ⟨rfl, h⟩
  · exact Or.inl h
  · exact Or.inr (Or.inl (take_err' (by decide)))
  · right
    by_cases hs : l.length < m.length
    · left; unfold takeE; rw [if_neg (by simp), if_pos hs]
    · right
      refine ⟨by unfold takeE; rw [if_neg (by simp), if_neg hs], ?_⟩
      rw [hct, List.length_append]
      have : restL l 0 m.length = l.drop m.length := by unfold restL; rw [if_neg (by simp; omega)]
      rw [this, List.length_drop]
      omega

set_option maxHeartbeats 6400000 in
set_option maxRecDepth 20000 in
theorem wireBack_any (sv : Value) (ops : List Opv) (w : World) (h : Rops w sv ops) (ht : (cat ops).length ≤ 1048576) :
    Calls Try.prog 7 #[sv] w (AlivePost w) := by
  obtain ⟨i0, hi, hz0, hz1, hz2⟩ := info_parts Try.info5
  have HRO := hid h
  obtain ⟨a, cap, rfl, hc, hm, hz⟩ := h
  unfold maxLen at hm
  have HZ := hid hz
  clear hz
  have hbyt := hid (show Byt (cat ops) from cat_byt fun x hx => by
    obtain ⟨k, hk, rfl⟩ := List.getElem_of_mem hx
    obtain ⟨b, off, _, hop⟩ := HZ.out k hk
    have := hop.2.2.2.2.2.1.byt
    rwa [show ops.getD k default = ops[k] by simp [List.getD_eq_getElem?_getD, hk]] at this)
  go_enter Try.func7, Try.ntmps7
  go_wp2_with fail
  refine (alive_any _).mono ?_
  rintro en w1 ⟨rfl, hb1⟩
  have C1 := hid ((Cx.refl w).more hb1)
  have RO1 := hid (HRO.out.below hb1)
  clear hb1
  go_wp2_with fail
  refine (size_any _ ops _ RO1.out ht).mono ?_
  rintro en w2 ⟨rfl, rfl⟩
  by_cases hbig : 65575 < (cat ops).length
  · have hbig' : decide ((65575 : Int) < (cat ops).length) = true := by simp; omega
    go_wp2_with fail
    refine (newWriter_any (fun _ => 0) 1 65575 _).mono ?_
    rintro en w3 ⟨rfl, hW, hb⟩
    obtain ⟨wb, hwb⟩ : ∃ b, b = w2.heap.size := ⟨_, rfl⟩
    rw [← hwb]
    have S3 : Hid (BigRel w wb ops (.int .i64 (0 : Nat)) w3) := hid ⟨0, _, [], 0, Nat.zero_le _, rfl, C1.out.grow hb 1, by rw [hwb]; exact hW, Or.inr ⟨rfl, rfl⟩⟩
    clear hW hb hwb
    go_wp2_with fail
    go_loopw [5] (fun i wr => BigRel w wb ops i wr) (fun i _ => ops.length - (intOf i).toNat)
    case atStart => exact S3.out
    case round =>
      obtain ⟨k, ρ, l, e, hk, rfl, hC, hW, hE⟩ := hrel
      have C := hid hC
      have W := hid hW
      have E := hid hE
      clear hC hW hE
      by_cases hlt : k < ops.length
      · obtain ⟨b, off, rfl, hop⟩ := HZ.out k hlt
        have hct := hid (cat_take hlt)
        generalize ops.getD k default = x at hop hct
        obtain ⟨kd, wh, n, v, bv, B⟩ := x
        obtain ⟨g0, g1, g2, g3, g4, g5, gl, _, _, g6, g7⟩ := hop.below C.out.bel
        simp only at g0 g1 g2 g3 g4 g5 gl g6 g7
        obtain ⟨ab, capb, rfl, _, _, _⟩ := g5.open
        have GB := hid g5
        have GL := hid gl
        have G7 := hid g7
        clear g5 gl g6 g7 hop
        go_wp2_with fail
        refine (put_any ρ 1 wb l 65575 e kd wh n v _ B _ W.out (by decide) GB.out GL.out (u32_bd G7.out).1 (u32_bd G7.out).2).mono ?_
        rintro en w10 ⟨rfl, ρ10, hρ, hW, hF⟩
        have S := hid (show BigRel w wb ops (.int .i64 ((k + 1 : Nat) : Int)) w10 from ⟨k + 1, ρ10, _, _, by omega, rfl, C.out.stepL hF (by decide) hρ, hW, by
          rcases E.out with rfl | ⟨rfl, rfl⟩
          · exact Or.inl (by simp [roomE])
          · by_cases hr : roomE (cat (ops.take k)).length 65575 0 (putM kd v B).length = 0
            · right
              refine ⟨hr, ?_⟩
              rw [if_pos hr, hct.out]
              rfl
            · left
              unfold roomE at hr ⊢
              split
              · rfl
              · rename_i h'; rw [if_neg h'] at hr; exact absurd rfl hr⟩)
        clear hρ hW hF
        go_wp2_with fail
        go_roundw
        case rel => (first | (have := S.out; simpa using this) | sorry)
        case measure => (simp [intOf]) <;> omega
      · have hkl : k = ops.length := by omega
        subst hkl
        have hE3 : e = 3 := by
          rcases E.out with h | ⟨_, h⟩
          · exact h
          · have := W.out.2.2.2.2.1
            rw [h, List.take_length] at this
            omega
        subst hE3
        have hl65 := W.out.2.2.2.2.1
        have hl' : decide ((l.length : Int) ≤ 65575) = true := by simpa using hl65
        go_wp2_with fail
        refine (wOut_any ρ 1 wb l 65575 3 _ W.out).mono ?_
        rintro en w12 ⟨v12, rfl, ho, hb⟩
        have ho' : w12.ownsRow _ 5 1 v12 0 (bts []) := ho
        obtain ⟨a12, c12, rfl, _⟩ := own_shape ho'
        have W12 := hid (W.out.moves (ρ' := ρ) (fun k hk _ => hb.block k hk) fun _ _ => rfl)
        have C12 := hid (C.out.more hb)
        clear ho ho' hb
        go_wp2_with fail
        refine (wErr_any ρ 1 wb l _ 3 _ W12.out).mono ?_
        rintro en w13 ⟨rfl, rfl⟩
        go_wp2_with fail
        refine (wLen_any ρ 1 wb l _ 3 _ W12.out).mono ?_
        rintro en w13 ⟨rfl, rfl⟩
        go_wp2_with fail
        go_ret
        exact ⟨rfl, C12.out.bel⟩
  · have hbig' : decide ((65575 : Int) < (cat ops).length) = false := by simp; omega
    have hlm := hid (limOf_in (n := (cat ops).length) (by omega) (by omega))
    go_wp2_with fail
    refine (newWriter_any (fun _ => 0) 1 (cat ops).length _).mono ?_
    rintro en w3 ⟨rfl, hW, hb⟩
    obtain ⟨wb, hwb⟩ : ∃ b, b = w2.heap.size := ⟨_, rfl⟩
    rw [← hwb]
    rw [hlm.out] at hW
    have S3 : Hid (WrRel w wb ops (.int .i64 (0 : Nat)) w3) := hid ⟨0, _, Nat.zero_le _, rfl, C1.out.grow hb 1, by rw [hwb]; exact hW⟩
    clear hW hb hwb
    go_wp2_with fail
    go_loopw [9] (fun i wr => WrRel w wb ops i wr) (fun i _ => ops.length - (intOf i).toNat)
    case atStart => exact S3.out
    case round =>
      obtain ⟨k, ρ, hk, rfl, hC, hW⟩ := hrel
      have C := hid hC
      have W := hid hW
      clear hC hW
      by_cases hlt : k < ops.length
      · obtain ⟨b, off, rfl, hop⟩ := HZ.out k hlt
        have hct := hid (cat_take hlt)
        have hct2 := hct.out
        have hle := cat_take_le ops (k + 1)
        generalize ops.getD k default = x at hop hct hct2
        obtain ⟨kd, wh, n, v, bv, B⟩ := x
        obtain ⟨g0, g1, g2, g3, g4, g5, gl, _, _, g6, g7⟩ := hop.below C.out.bel
        simp only at g0 g1 g2 g3 g4 g5 gl g6 g7
        obtain ⟨ab, capb, rfl, _, _, _⟩ := g5.open
        have GB0 := hid hop.2.2.2.2.2.1
        have GB := hid g5
        have GL := hid gl
        have G7 := hid g7
        clear g5 gl g6 g7 hop
        have hm2 : opM ⟨kd, wh, n, v, .slice ab B.length capb, B⟩ = putM kd v B := rfl
        rw [hm2] at hct2
        rw [hct2, List.length_append] at hle
        have HCT := hid hct2
        clear hct hct2 hm2
        obtain ⟨ck, hck⟩ : ∃ ck, ck = cat (ops.take k) := ⟨_, rfl⟩
        rw [← hck] at W HCT hle
        obtain ⟨m, hm2⟩ : ∃ m, m = putM kd v B := ⟨_, rfl⟩
        rw [← hm2] at HCT hle
        have hroom := hid (show roomE ck.length (cat ops).length 0 m.length = 0 by unfold roomE; rw [if_neg (by omega)])
        have HM2 := hid hm2
        have HCK := hid hck
        clear hck hm2
        have hw1 : IntKind.i64.wrap ((ck.length : Int) + (m.length : Int)) = (ck.length : Int) + (m.length : Int) := IntWalk.i64_in _ (by omega)
        go_wp2_with fail
        refine (wLen_any ρ 1 wb ck _ 0 _ W.out).mono ?_
        rintro en w9 ⟨rfl, rfl⟩
        go_wp2_with fail
        refine (put_any ρ 1 wb ck (cat ops).length 0 kd wh n v _ B _ W.out (by decide) GB.out GL.out (u32_bd G7.out).1 (u32_bd G7.out).2).mono ?_
        rintro en w10 ⟨rfl, ρ10, hρ, hW, hF⟩
        rw [← HM2.out] at hW ⊢
        rw [if_pos hroom.out, hroom.out] at hW
        have C10 := hid (C.out.stepL hF (by decide) hρ)
        have W10 := hid hW
        clear hρ hW hF
        go_wp2_with fail
        refine (wLen_any ρ10 1 wb (ck ++ m) _ 0 _ W10.out).mono ?_
        rintro en w11 ⟨rfl, rfl⟩
        have hll : ((ck ++ m).length : Int) = (ck.length : Int) + (m.length : Int) := by rw [List.length_append]; rfl
        rw [hll]
        go_wp2_with fail
        refine (wErr_any ρ10 1 wb (ck ++ m) _ 0 _ W10.out).mono ?_
        rintro en w11 ⟨rfl, rfl⟩
        have S := hid (show WrRel w wb ops (.int .i64 ((k + 1 : Nat) : Int)) w11 from ⟨k + 1, ρ10, by omega, rfl, C10.out, by rw [HCT.out]; exact W10.out⟩)
        clear C10 W10
        go_wp2_with fail
        go_roundw
        case rel => first | (have := S.out; simpa using this) | ((repeat apply Exists.intro); exact ⟨by (have := S.out; simpa using this), rfl⟩)
        case measure => (simp [intOf]) <;> omega
      · have hkl : k = ops.length := by omega
        subst hkl
        rw [List.take_length] at W
        go_wp2_with fail
        refine (wOut_any ρ 1 wb (cat ops) _ 0 _ W.out).mono ?_
        rintro en w12 ⟨v12, rfl, ho, hb⟩
        have ho' : w12.ownsRow _ 5 1 v12 (cat ops).length (bts (cat ops)) := ho
        obtain ⟨a12, c12, rfl, hc12, _, _⟩ := own_shape ho'
        obtain ⟨ρ12, C12, V12, L12⟩ : ∃ ρ12, Hid (Cx w ρ12 w12) ∧ Hid (w12.ownsRow 0 5 1 (.slice a12 (cat ops).length c12) (cat ops).length (bts (cat ops))) ∧ Hid (Lab ρ12 9 (.slice a12 (cat ops).length c12)) :=
          ⟨_, hid (C.out.grow hb 9), hid (own_base ho' (Nat.zero_le _)), hid fun b hb' => ext_new (ho'.lt b hb').1⟩
        clear ho ho' hb W C
        go_wp2_with fail
        refine (own_any _ (cat ops) _ (Rb.of_own hbyt.out V12.out) (by omega)).mono ?_
        rintro en w13 ⟨v13, rfl, ho, hb⟩
        have R13 := hid (Rb.of_own hbyt.out ho)
        have C13 := hid (C12.out.more hb)
        have V13 := hid (own_move V12.out fun b _ hlt => hb.block b hlt)
        clear ho hb V12 C12
        go_wp2_with fail
        refine (newReader_any ρ12 2 _ (cat ops) _ R13.out (by omega)).mono ?_
        rintro en w14 ⟨rb, rfl, _, hR, hb⟩
        have S14 : Hid (RdRel w rb ops (.slice a12 (cat ops).length c12) (.int .i64 (0 : Nat)) w14) :=
          hid ⟨0, _, Nat.zero_le _, rfl, C13.out.grow hb 2, hR, own_move V13.out fun b _ hlt => hb.block b hlt, fun b hb' => by rw [ext_old (own_lt V13.out hb')]; exact L12.out b hb'⟩
        clear hR hb R13 C13 V13 L12
        go_wp2_with fail
        go_loopw [15] (fun i wr => RdRel w rb ops (.slice a12 (cat ops).length c12) i wr) (fun i _ => ops.length - (intOf i).toNat)
        case atStart => exact S14.out
        case round =>
          obtain ⟨k, ρ, hk, rfl, hC, hR, hV, hL⟩ := hrel
          have C := hid hC
          have R := hid hR
          have V := hid hV
          have L := hid hL
          clear hC hR hV hL
          by_cases hlt : k < ops.length
          · obtain ⟨b, off, rfl, hop⟩ := HZ.out k hlt
            have hct := cat_drop hlt
            generalize ops.getD k default = x at hop hct
            obtain ⟨kd, wh, n, v, bv, B⟩ := x
            obtain ⟨g0, g1, g2, g3, g4, g5, gl, _, _, g6, g7⟩ := hop.below C.out.bel
            simp only at g0 g1 g2 g3 g4 g5 gl g6 g7
            obtain ⟨ab, capb, rfl, _, _, _⟩ := g5.open
            have GB0 := hid hop.2.2.2.2.2.1
            have HOP := hid hop
            have GB := hid g5
            have GL := hid gl
            have G7 := hid g7
            clear g5 gl g6 g7 hop
            have hct2 : cat (ops.drop k) = putM kd v B ++ cat (ops.drop (k + 1)) := hct
            have HCT := hid hct2
            clear hct hct2
            obtain ⟨m, hm2⟩ : ∃ m, m = putM kd v B := ⟨_, rfl⟩
            obtain ⟨r, hr⟩ : ∃ r, r = cat (ops.drop (k + 1)) := ⟨_, rfl⟩
            rw [HCT.out, ← hm2, ← hr] at R
            have HM2 := hid hm2
            have HRR := hid hr
            clear hm2 hr
            have ht1 := hid (takeL_fit (l := m ++ r) (n := m.length) (by simp))
            have ht2 := hid (restL_fit (l := m ++ r) (n := m.length) (by simp))
            have ht3 := hid (takeE_fit (l := m ++ r) (n := m.length) (by simp))
            go_wp2_with fail
            refine (got_any ρ 2 rb (m ++ r) 0 kd wh n v _ B _ R.out (by decide) GB.out GL.out (fun hne b hb => by rw [C.out.lab b (GB0.out.lt hne hb)]; decide) (u32_bd G7.out).1 (u32_bd G7.out).2).mono ?_
            rintro en w15 ⟨rfl, ρ15, hρ, hR, hF⟩
            rw [← HM2.out, ht1.out, List.take_left, HM2.out, gotB_put (u32_bd G7.out).1 (u32_bd G7.out).2]
            rw [← HM2.out, ht2.out, ht3.out, List.drop_left, HRR.out] at hR
            have S := hid (show RdRel w rb ops (.slice a12 (cat ops).length c12) (.int .i64 ((k + 1 : Nat) : Int)) w15 from ⟨k + 1, ρ15, by omega, rfl, C.out.stepL hF (by decide) hρ, hR,
              own_move V.out fun b hb hlt => hF.block b hlt (by rw [L.out b hb]; decide), fun b hb => by rw [hρ b (own_lt V.out hb)]; exact L.out b hb⟩)
            clear hρ hR hF
            go_wp2_with fail
            go_roundw
            case rel => first | (have := S.out; simpa using this) | ((repeat apply Exists.intro); exact ⟨by (have := S.out; simpa using this), rfl⟩)
            case measure => (simp [intOf]) <;> omega
          · have hkl : k = ops.length := by omega
            subst hkl
            rw [List.drop_length] at R
            have R := hid (R.out.cast (l' := []) rfl (rfl : (0 : Int) = 0))
            go_wp2_with fail
            refine (rEnd_any ρ 2 rb [] 0 _ R.out).mono ?_
            rintro en w15 ⟨rfl, rfl⟩
            rw [show endE [] 0 = 0 by simp [endE]]
            go_wp2_with fail
            refine (rLeft_any ρ 2 rb [] 0 _ R.out).mono ?_
            rintro en w15 ⟨rfl, rfl⟩
            go_wp2_with fail
            refine (rErr_any ρ 2 rb [] 0 _ R.out).mono ?_
            rintro en w15 ⟨rfl, rfl⟩
            clear R
            go_wp2_with fail
            refine (own_any _ (cat ops) _ (Rb.of_own hbyt.out V.out) (by omega)).mono ?_
            rintro en w16 ⟨v16, rfl, ho, hb⟩
            obtain ⟨a16, c16, rfl, _, _, _⟩ := own_shape ho
            have HO := hid ho
            have HBo := hid hb
            have hs16 := hb.size
            clear ho hb
            go_wp2_with (at_builtin; refine wpList_append_bytes rfl _ _ 22 rfl w15.heap.size 5 i0 _ Try.underlying22 hi hz0 hz1 hz2 rfl (.slice a16 (cat ops).length c16) _ _ rfl (HO.out.alloc _) _ [7] rfl (Rb.new (lit_bytes (by decide)) (heap_alloc_new w16 _) rfl rfl (by decide)) (by simp; omega) (by simp; omega) ?_; intro a17 c17 w17 ho hg hat)
            obtain ⟨ρ17, C17, V17, L17⟩ : ∃ ρ17, Hid (Cx w ρ17 w17) ∧ Hid (w17.ownsRow 0 5 1 (.slice a12 (cat ops).length c12) (cat ops).length (bts (cat ops))) ∧ Hid (Lab ρ17 9 (.slice a12 (cat ops).length c12)) := by
              have hbel : Below w15.heap.size w15 w17 := (HBo.out.alloc HBo.out.size _).grown hg (by simp; omega) fun g hgb => (HO.out.lt g hgb).1
              exact ⟨ρ, hid (C.out.more hbel), hid (own_move V.out fun b _ hlt => hbel.block b hlt), hid L.out⟩
            have R17 := hid (Rb.of_own (l := cat ops ++ [7]) (hbyt.out.append (lit_bytes (by decide))) (by rw [bts_append]; exact ho))
            clear ho hg hat HO HBo hs16 C V L
            go_wp2_with fail
            refine (newReader_any ρ17 3 _ (cat ops ++ [7]) _ R17.out (by simp; omega)).mono ?_
            rintro en w18 ⟨lb, rfl, _, hR, hb⟩
            obtain ⟨ρ18, C18, V18, L18, R18⟩ : ∃ ρ18, Hid (Cx w ρ18 w18) ∧ Hid (w18.ownsRow 0 5 1 (.slice a12 (cat ops).length c12) (cat ops).length (bts (cat ops))) ∧ Hid (Lab ρ18 9 (.slice a12 (cat ops).length c12)) ∧ Hid (IsR ρ18 3 w18 lb (cat ops ++ [7]) 0) :=
              ⟨_, hid (C17.out.grow hb 3), hid (own_move V17.out fun b _ hlt => hb.block b hlt), hid (fun b hb' => by rw [ext_old (own_lt V17.out hb')]; exact L17.out b hb'), hid hR⟩
            clear hR hb C17 V17 L17 R17
            obtain ⟨q, hq⟩ : ∃ q : Nat, q = (cat ops).length - 1 := ⟨_, rfl⟩
            have hmx : max (0 : Int) ((cat ops).length - 1) = q := by omega
            have hqs := fun W => run_slice_h_sub (P := Try.prog) 22 5 Try.underlying22 hi hz1 a12 (cat ops).length c12 .i64 q q rfl (by omega) W
            have V18s := hid ((Rb.of_own hbyt.out V18.out).front q (by omega))
            have HQ := hid hq
            clear hq
            go_wp2_with fail
            all_goals
              obtain ⟨qq, hqq, VS⟩ : ∃ qq : Nat, qq = (cat ops).length - 1 ∧ Hid (Rb w18 (.slice a12 qq c12) ((cat ops).take qq)) := ⟨q, HQ.out, V18s⟩
              have HQQ := hid hqq
              first
                | rw [← hqq]
                | (have hq0 : qq = 0 := by omega
                   rw [hq0] at VS)
              clear hqq
              refine (own_any _ _ _ VS.out (by first | (simp; done) | (simp; omega))).mono ?_
              rintro en w19 ⟨v19, rfl, ho, hb⟩
              have R19 := hid (Rb.of_own (hbyt.out.take _) ho)
              obtain ⟨C19, L19⟩ : Hid (Cx w ρ18 w19) ∧ Hid (IsR ρ18 3 w19 lb (cat ops ++ [7]) 0) := ⟨hid (C18.out.more hb), hid (R18.out.moves (fun k hk _ => hb.block k hk) fun _ _ => rfl)⟩
              clear ho hb VS V18s
              go_wp2_with fail
              refine (newReader_any ρ18 4 _ _ _ R19.out (by first | (simp; done) | (simp; omega))).mono ?_
              rintro en w20 ⟨sb, rfl, _, hR, hb⟩
              have S20 : Hid (LsRel w lb sb ops (.int .i64 (0 : Nat)) w20) :=
                hid ⟨0, _, _, 0, Nat.zero_le _, rfl, C19.out.grow hb 4, (L19.out.moves (fun k hk _ => hb.block k hk) (fun k hk => ext_old hk)), hR, by
                  have := HQQ.out
                  unfold ShortOk
                  by_cases h0 : (cat ops).length = 0
                  · exact Or.inl h0
                  · refine Or.inr (Or.inr ⟨rfl, ?_⟩)
                    simp [cat] at h0 this ⊢
                    omega⟩
              clear hR hb R19 C19 L19
              go_wp2_with fail
              go_loopw [19] (fun i wr => LsRel w lb sb ops i wr) (fun i _ => ops.length - (intOf i).toNat)
              case atStart => exact S20.out
              case round =>
                clear hk hlt
                obtain ⟨k, ρ, ls, es, hk, rfl, hC, hR, hS, hO⟩ := hrel
                have C := hid hC
                have R := hid hR
                have S := hid hS
                have O := hid hO
                clear hC hR hS hO
                by_cases hlt : k < ops.length
                · obtain ⟨b, off, rfl, hop⟩ := HZ.out k hlt
                  have hct := cat_drop hlt
                  have hnx := O.out.next hlt
                  generalize ops.getD k default = x at hop hct hnx
                  obtain ⟨kd, wh, n, v, bv, B⟩ := x
                  obtain ⟨g0, g1, g2, g3, g4, g5, gl, _, _, g6, g7⟩ := hop.below C.out.bel
                  simp only at g0 g1 g2 g3 g4 g5 gl g6 g7
                  obtain ⟨ab, capb, rfl, _, _, _⟩ := g5.open
                  have GB0 := hid hop.2.2.2.2.2.1
                  have HOP := hid hop
                  have GB := hid g5
                  have GL := hid gl
                  have G7 := hid g7
                  have hct2 : cat (ops.drop k) = putM kd v B ++ cat (ops.drop (k + 1)) := hct
                  have hnx2 : ShortOk ops (k + 1) (restL ls es (putM kd v B).length) (takeE ls es (putM kd v B).length) := hnx
                  have HCT := hid hct2
                  have HNX := hid hnx2
                  clear hct hct2 hnx hnx2 g5 gl g6 g7 hop
                  obtain ⟨m, hm2⟩ : ∃ m, m = putM kd v B := ⟨_, rfl⟩
                  obtain ⟨r, hr⟩ : ∃ r, r = cat (ops.drop (k + 1)) := ⟨_, rfl⟩
                  rw [HCT.out, ← hm2, ← hr, List.append_assoc] at R
                  have HM2 := hid hm2
                  have HRR := hid hr
                  clear hm2 hr
                  have ht1 := hid (takeL_fit (l := m ++ (r ++ [7])) (n := m.length) (by simp))
                  have ht2 := hid (restL_fit (l := m ++ (r ++ [7])) (n := m.length) (by simp))
                  have ht3 := hid (takeE_fit (l := m ++ (r ++ [7])) (n := m.length) (by simp))
                  go_wp2_with fail
                  refine (got_any ρ 3 lb (m ++ (r ++ [7])) 0 kd wh n v _ B _ R.out (by decide) GB.out GL.out (fun hne b hb => by rw [C.out.lab b (GB0.out.lt hne hb)]; decide) (u32_bd G7.out).1 (u32_bd G7.out).2).mono ?_
                  rintro en w21 ⟨rfl, ρ21, hρ, hR, hF⟩
                  rw [← HM2.out, ht1.out, List.take_left, HM2.out, gotB_put (u32_bd G7.out).1 (u32_bd G7.out).2]
                  rw [← HM2.out, ht2.out, ht3.out, List.drop_left, HRR.out] at hR
                  obtain ⟨C21, R21, S21⟩ : Hid (Cx w ρ21 w21) ∧ Hid (IsR ρ21 3 w21 lb (cat (ops.drop (k + 1)) ++ [7]) 0) ∧ Hid (IsR ρ21 4 w21 sb ls es) :=
                    ⟨hid (C.out.stepL hF (by decide) hρ), hid hR, hid (S.out.moves (fun k hk hki => hF.block k hk (by rw [hki]; decide)) hρ)⟩
                  obtain ⟨g0, g1, g2, g3, g4, g5, _⟩ := HOP.out.below C21.out.bel
                  simp only at g0 g1 g2 g3 g4 g5
                  have GB2 := hid g5
                  clear hρ hR hF g5
                  go_wp2_with fail
                  refine (got_any ρ21 4 sb ls es kd wh n v _ B _ S21.out (by decide) GB2.out GL.out (fun hne b hb => by rw [C21.out.lab b (GB0.out.lt hne hb)]; decide) (u32_bd G7.out).1 (u32_bd G7.out).2).mono ?_
                  rintro en w22 ⟨rfl, ρ22, hρ, hR, hF⟩
                  have S' := hid (show LsRel w lb sb ops (.int .i64 ((k + 1 : Nat) : Int)) w22 from ⟨k + 1, ρ22, _, _, by omega, rfl, C21.out.stepL hF (by decide) hρ, R21.out.moves (fun k hk hki => hF.block k hk (by rw [hki]; decide)) hρ, hR, HNX.out⟩)
                  clear hρ hR hF
                  go_wp2_with fail
                  go_roundw
                  case rel => first | (have := S'.out; simpa using this) | ((repeat apply Exists.intro); exact ⟨by (have := S'.out; simpa using this), rfl⟩)
                  case measure => (simp [intOf]) <;> omega
                · have hkl : k = ops.length := by omega
                  subst hkl
                  rw [List.drop_length] at R
                  have R := hid (R.out.cast (l' := [7]) rfl (rfl : (0 : Int) = 0))
                  have hO := O.out
                  unfold ShortOk at hO
                  rw [List.take_length] at hO
                  have hn0 : (cat ops).length = 0 ∨ ((cat ops).length ≠ 0 ∧ es = 20) := by
                    rcases hO with h | h | ⟨_, h⟩
                    · exact Or.inl h
                    · by_cases h0 : (cat ops).length = 0
                      · exact Or.inl h0
                      · exact Or.inr ⟨h0, h⟩
                    · omega
                  clear hO
                  go_wp2_with fail
                  refine (rEnd_any ρ 3 lb [7] 0 _ R.out).mono ?_
                  rintro en w21 ⟨rfl, rfl⟩
                  rw [show endE [7] 0 = 21 by simp [endE]]
                  go_wp2_with fail
                  refine (rErr_any ρ 3 lb [7] 0 _ R.out).mono ?_
                  rintro en w21 ⟨rfl, rfl⟩
                  go_wp2_with fail
                  refine (rLeft_any ρ 3 lb [7] 0 _ R.out).mono ?_
                  rintro en w21 ⟨rfl, rfl⟩
                  rcases hn0 with h0 | ⟨h0, rfl⟩
                  · have h0' : (((cat ops).length : Int) == 0) = true := by simp [h0]
                    go_wp2_with fail
                    go_ret
                    exact ⟨rfl, C.out.bel⟩
                  · have h0' : (((cat ops).length : Int) == 0) = false := by simpa using h0
                    go_wp2_with fail
                    refine (rEnd_any ρ 4 sb ls 20 _ S.out).mono ?_
                    rintro en w22 ⟨rfl, rfl⟩
                    rw [show endE ls 20 = 20 by simp [endE]]
                    go_wp2_with fail
                    go_ret
                    exact ⟨rfl, C.out.bel⟩

end Go.Proofs.Ytniiigidedcpaaa
