/-
  WireStays: whatever the bytes and the script, the call answers true and leaves what was there as it was.
-/
import Derived.Test.YtniiigidedcpaaaL02P
import Derived.Test.YtniiigidedcpaaaL02V
import Derived.Deep.CutBlock
import Derived.Deep.DeepCutAuto
namespace Go.Proofs.Ytniiigidedcpaaa
open Go.RowKit

/-- behind the first error -/
def StState (w0 : World) (wb rb : Nat) (lim : Int) (lw lr : List Int) (wr : World) : Prop := ∃ ρ, Cx w0 ρ wr ∧ IsW ρ 1 wr wb lw lim 3 ∧ IsR ρ 2 wr rb lr 20
def StRounds (w0 : World) (wb rb : Nat) (lim : Int) (lw lr : List Int) (n : Nat) (i : Value) (wr : World) : Prop := ∃ k : Nat, k ≤ n ∧ i = .int .i64 k ∧ StState w0 wb rb lim lw lr wr
theorem take_err {l : List Int} {e : Int} {n : Nat} (h : e ≠ 0) : takeL l e n = [] ∧ restL l e n = l ∧ takeE l e n = e := by simp [takeL, restL, takeE, h]
theorem ask_err {l : List Int} {e n : Int} (h : e ≠ 0) : askL l e n = [] ∧ askR l e n = l ∧ askE l e n = e := by
  refine ⟨?_, ?_, ?_⟩
  · unfold askL; split <;> simp [takeL, h]
  · unfold askR; split <;> simp [restL, h]
  · unfold askE; split <;> simp [takeE, h]
theorem room_err {a b e c : Int} (h : e ≠ 0) : roomE a b e c = e := by simp [roomE, h]

set_option maxHeartbeats 6400000 in
set_option maxRecDepth 20000 in
theorem wireStays_any (av sv : Value) (l : List Int) (ops : List Opv) (w : World) (ha : Rb w av l) (h : Rops w sv ops) (hla : l.length + 2 ≤ 140737488355328) :
    Calls Try.prog 8 #[av, sv] w (AlivePost w) := by
  have HA := hid ha
  obtain ⟨a, cap, rfl, hc, hm, hz⟩ := h
  obtain ⟨aa, acap, rfl, hac, ham, _⟩ := ha.open
  unfold maxLen at hm ham
  have HZ := hid hz
  clear hz ha
  go_enter Try.func8, Try.ntmps8
  go_wp2_with fail
  refine (alive_any _).mono ?_
  rintro en w1 ⟨rfl, hb1⟩
  have C1 := hid ((Cx.refl w).more hb1)
  have HA1 := hid (HA.out.below hb1)
  clear hb1
  go_wp2_with fail
  refine (own_any _ l _ HA1.out (by omega)).mono ?_
  rintro en w2 ⟨v2, rfl, ho, hb2⟩
  have V2 := hid (Rb.of_own HA.out.byt ho)
  have C2 := hid (C1.out.more hb2)
  clear ho hb2
  go_wp2_with fail
  refine (newReader_any (fun _ => 0) 2 _ l _ V2.out (by omega)).mono ?_
  rintro en w3 ⟨rb, rfl, _, hR, hb⟩
  obtain ⟨ρ3, C3, R3⟩ : ∃ ρ3, Hid (Cx w ρ3 w3) ∧ Hid (IsR ρ3 2 w3 rb l 0) := ⟨_, hid (C2.out.grow hb 2), hid hR⟩
  clear hR hb C1 C2 V2 HA1
  go_wp2_with fail
  refine (newWriter_any ρ3 1 l.length _).mono ?_
  rintro en w4 ⟨rfl, hW, hb⟩
  obtain ⟨wb, hwb⟩ : ∃ b, b = w3.heap.size := ⟨_, rfl⟩
  rw [← hwb]
  obtain ⟨ρ4, C4, R4, W4⟩ : ∃ ρ4, Hid (Cx w ρ4 w4) ∧ Hid (IsR ρ4 2 w4 rb l 0) ∧ Hid (IsW ρ4 1 w4 wb [] (limOf l.length) 0) :=
    ⟨_, hid (C3.out.grow hb 1), hid (R3.out.moves (fun k hk _ => hb.block k hk) fun k hk => ext_old hk), hid (by rw [hwb]; exact hW)⟩
  clear hW hb hwb C3 R3
  have HA4 := hid (HA.out.below C4.out.bel)
  go_wp2_with fail
  refine (own_any _ l _ HA4.out (by omega)).mono ?_
  rintro en w5 ⟨v5, rfl, ho, hb⟩
  obtain ⟨ρ5, C5, R5, W5, L5⟩ : ∃ ρ5, Hid (Cx w ρ5 w5) ∧ Hid (IsR ρ5 2 w5 rb l 0) ∧ Hid (IsW ρ5 1 w5 wb [] (limOf l.length) 0) ∧ Hid (Lab ρ5 9 v5) :=
    ⟨_, hid (C4.out.grow hb 9), hid (R4.out.moves (fun k hk _ => hb.block k hk) fun k hk => ext_old hk), hid (W4.out.moves (fun k hk _ => hb.block k hk) fun k hk => ext_old hk), hid fun b hb' => ext_new (ho.lt b hb').1⟩
  have V5 := hid (Rb.of_own HA.out.byt ho)
  clear ho hb C4 R4 W4 HA4
  obtain ⟨lw, hlw⟩ : ∃ lw, lw = if (65575 : Int) < l.length then [] else l := ⟨_, rfl⟩
  obtain ⟨e5, he5⟩ : ∃ e, e = roomE (0 : Nat) (limOf l.length) 0 l.length := ⟨_, rfl⟩
  have hlim : limOf l.length = if (65575 : Int) < l.length then 65575 else (l.length : Int) := by unfold limOf; rw [if_neg (by omega)]
  have hE5 : e5 = if (65575 : Int) < l.length then 3 else 0 := by
    rw [he5, hlim]; unfold roomE; split <;> split <;> omega
  have hE6 : roomE lw.length (limOf l.length) e5 1 = 3 := by
    by_cases hbig : (65575 : Int) < l.length
    · rw [hE5, if_pos hbig]; exact room_err (by decide)
    · rw [hE5, if_neg hbig, hlim, if_neg hbig, hlw, if_neg hbig]; unfold roomE; rw [if_pos ⟨rfl, by omega⟩]
  have hlw5 : (if roomE (0 : Nat) (limOf l.length) 0 l.length = 0 then ([] : List Int) ++ l else []) = lw := by
    rw [← he5, hE5, hlw]; by_cases hbig : (65575 : Int) < l.length <;> simp [hbig]
  have E5 := hid he5
  have E6 := hid hE6
  have LW5 := hid hlw5
  have HLW := hid hlw
  clear hlw he5 hlim hE5 hE6 hlw5
  go_wp2_with fail
  refine (wBytes_any ρ5 1 9 wb [] l (limOf l.length) 0 _ _ W5.out V5.out (fun _ => L5.out) (by decide) (by omega)).mono ?_
  rintro en w6 ⟨rfl, hW, hF⟩
  obtain ⟨ρ6, C6, R6, W6⟩ : ∃ ρ6, Hid (Cx w ρ6 w6) ∧ Hid (IsR ρ6 2 w6 rb l 0) ∧ Hid (IsW ρ6 1 w6 wb lw (limOf l.length) e5) :=
    ⟨_, hid (C5.out.step hF (by decide) 1), hid (R5.out.other hF (by decide)), hid (hW.cast LW5.out E5.out.symm)⟩
  clear hW hF C5 R5 W5 V5 L5
  have hll : IntKind.i64.wrap ((l.length : Int) + 1) = ((l.length + 1 : Nat) : Int) := IntWalk.i64_in _ (by omega)
  have A1 := hid (show askR l 0 ((l.length + 1 : Nat) : Int) = l by rw [(ask_nat l 0 _).2.2]; simp [restL])
  have A2 := hid (show askE l 0 ((l.length + 1 : Nat) : Int) = 20 by rw [(ask_nat l 0 _).1]; simp [takeE])
  go_wp2_with fail
  refine (rBytes_any ρ6 2 rb l 0 ((l.length + 1 : Nat) : Int) _ R6.out).mono ?_
  rintro en w7 ⟨v7, rfl, ho, hR, hF⟩
  obtain ⟨ρ7, C7, R7, W7⟩ : ∃ ρ7, Hid (Cx w ρ7 w7) ∧ Hid (IsR ρ7 2 w7 rb l 20) ∧ Hid (IsW ρ7 1 w7 wb lw (limOf l.length) e5) :=
    ⟨_, hid (C6.out.step' hF (by decide)), hid (hR.cast A1.out A2.out), hid (W6.out.moves (fun k hk hki => hF.block k hk (by rw [hki]; decide)) fun _ _ => rfl)⟩
  clear ho hR hF C6 R6 W6
  go_wp2_with fail
  refine (wU8_any ρ7 1 wb lw (limOf l.length) e5 1 _ W7.out (by decide) (by decide)).mono ?_
  rintro en w8 ⟨rfl, hW, hF⟩
  have hEE : roomE lw.length (limOf l.length) e5 (be 1 1).length = 3 := E6.out
  have S8 : Hid (StState w wb rb (limOf l.length) lw l w8) :=
    hid ⟨_, C7.out.step hF (by decide) 1, hW.cast (by rw [hEE]; rfl) hEE, R7.out.other hF (by decide)⟩
  clear hW hF C7 R7 W7 hEE hll
  go_upto_if 35 with fail
  go_cut [7] from 35 (fun t wc => t = .int .i64 lw.length ∧ wc = w8)
  case first =>
    by_cases hbig : (65575 : Int) < l.length
    · have hbig' : decide ((65575 : Int) < l.length) = true := by simpa using hbig
      have hl0 := hid (show lw = [] by rw [HLW.out, if_pos hbig])
      go_wp2_with fail
      go_meet
      exact ⟨by rw [hl0.out]; rfl, rfl⟩
    · have hbig' : decide ((65575 : Int) < l.length) = false := by simpa using hbig
      have hl0 := hid (show lw = l by rw [HLW.out, if_neg hbig])
      go_wp2_with fail
      go_meet
      exact ⟨by rw [hl0.out], rfl⟩
  case rest =>
    obtain ⟨rfl, rfl⟩ := hcut
    obtain ⟨ρ, C, W, R⟩ := S8.out
    have C := hid C
    have W := hid W
    have R := hid R
    go_wp2_with fail
    refine (rErr_any ρ 2 rb l 20 _ R.out).mono ?_
    rintro en w9 ⟨rfl, rfl⟩
    go_wp2_with fail
    refine (wErr_any ρ 1 wb lw _ 3 _ W.out).mono ?_
    rintro en w9 ⟨rfl, rfl⟩
    go_wp2_with fail
    refine (rLeft_any ρ 2 rb l 20 _ R.out).mono ?_
    rintro en w9 ⟨rfl, rfl⟩
    go_wp2_with fail
    refine (wLen_any ρ 1 wb lw _ 3 _ W.out).mono ?_
    rintro en w9 ⟨rfl, rfl⟩
    clear C W R
    go_wp2_with fail
    go_loopw [8] (fun i wr => StRounds w wb rb (limOf l.length) lw l ops.length i wr) (fun i _ => ops.length - (intOf i).toNat)
    case atStart => exact ⟨0, Nat.zero_le _, rfl, S8.out⟩
    case round =>
      obtain ⟨k, hk, rfl, hst⟩ := hrel
      have HS := hid hst
      obtain ⟨ρ, C, W, R⟩ := hst
      have C := hid C
      have W := hid W
      have R := hid R
      by_cases hlt : k < ops.length
      · obtain ⟨b, off, rfl, hop⟩ := HZ.out k hlt
        generalize ops.getD k default = x at hop
        obtain ⟨kd, wh, n, v, bv, B⟩ := x
        obtain ⟨g0, g1, g2, g3, g4, g5, gl, _, _, g6, g7⟩ := hop.below C.out.bel
        simp only at g0 g1 g2 g3 g4 g5 gl g6 g7
        obtain ⟨ab, capb, rfl, _, _, _⟩ := g5.open
        have GB := hid g5
        have GL := hid gl
        have G6 := hid g6
        have G7 := hid g7
        clear g5 gl g6 g7 hop
        go_wp2_with fail
        obtain ⟨ob, hob⟩ : ∃ b, b = wr.heap.size := ⟨_, rfl⟩
        rw [← hob]
        obtain ⟨w9, hw9⟩ : ∃ w9, w9 = wr.alloc (.cells #[.int .i64 kd, .int .i64 wh, .int .i64 n, .int .u32 v, .slice ab B.length capb] 49) := ⟨_, rfl⟩
        rw [← hw9]
        obtain ⟨ρ9, C9, W9, R9, X9⟩ : ∃ ρ9, Hid (Cx w ρ9 w9) ∧ Hid (IsW ρ9 1 w9 wb lw (limOf l.length) 3) ∧ Hid (IsR ρ9 2 w9 rb l 20) ∧ Hid (w9.heap[ob]? = some (.cells #[.int .i64 kd, .int .i64 wh, .int .i64 n, .int .u32 v, .slice ab B.length capb] 49 (0, 0)) ∧ ρ9 ob = 9) := by
          have hb : Below wr.heap.size wr w9 := by rw [hw9]; exact bel_alloc wr _
          exact ⟨_, hid (C.out.grow hb 9), hid (W.out.moves (fun k hk _ => hb.block k hk) fun k hk => ext_old hk), hid (R.out.moves (fun k hk _ => hb.block k hk) fun k hk => ext_old hk), hid ⟨by rw [hob, hw9]; exact heap_alloc_new wr _, by rw [hob]; exact ext_new (Nat.le_refl _)⟩⟩
        have GB9 := hid (GB.out.below (w' := w9) (by rw [hw9]; exact bel_alloc wr _))
        clear C W R hw9 hob g0 g1 g2 g3 g4
        refine (put_any ρ9 1 wb lw (limOf l.length) 3 kd wh n v _ B _ W9.out (by decide) GB9.out GL.out (u32_bd G7.out).1 (u32_bd G7.out).2).mono ?_
        rintro en w10 ⟨rfl, ρ10, hρ, hW, hF⟩
        obtain ⟨C10, W10, R10, X10⟩ : Hid (Cx w ρ10 w10) ∧ Hid (IsW ρ10 1 w10 wb lw (limOf l.length) 3) ∧ Hid (IsR ρ10 2 w10 rb l 20) ∧ Hid (w10.heap[ob]? = some (.cells #[.int .i64 kd, .int .i64 wh, .int .i64 n, .int .u32 v, .slice ab B.length capb] 49 (0, 0)) ∧ ρ10 ob = 9) := by
          rw [room_err (by decide)] at hW
          exact ⟨hid (C9.out.stepL hF (by decide) hρ), hid hW, hid (R9.out.moves (fun k hk hki => hF.block k hk (by rw [hki]; decide)) hρ), hid ⟨(hF.block ob (lt_of_block X9.out.1) (by rw [X9.out.2]; decide)).trans X9.out.1, (hρ _ (lt_of_block X9.out.1)).trans X9.out.2⟩⟩
        obtain ⟨q0, q1, q2, q3, q4, z0, z1, z2, z3, z4⟩ := cells5 X10.out.1
        clear hρ hW hF C9 W9 R9 X9
        go_wp2_with fail
        refine (wPut16_any ρ10 1 wb lw (limOf l.length) 3 n (v % 65536) _ W10.out (i64_bd G6.out).1 (i64_bd G6.out).2 (by omega) (by omega)).mono ?_
        rintro en w11 ⟨rfl, hW, hF⟩
        obtain ⟨ρ11, C11, W11, R11, X11⟩ : ∃ ρ11, Hid (Cx w ρ11 w11) ∧ Hid (IsW ρ11 1 w11 wb lw (limOf l.length) 3) ∧ Hid (IsR ρ11 2 w11 rb l 20) ∧ Hid (w11.heap[ob]? = some (.cells #[.int .i64 kd, .int .i64 wh, .int .i64 n, .int .u32 v, .slice ab B.length capb] 49 (0, 0))) :=
          ⟨_, hid (C10.out.step hF (by decide) 1), hid (hW.cast (by simp [put16L]) (by simp [put16E])), hid (R10.out.other hF (by decide)), hid ((hF.block ob (lt_of_block X10.out.1) (by rw [X10.out.2]; decide)).trans X10.out.1)⟩
        clear hW hF C10 W10 R10 X10 q0 q1 q2 q3 q4 z0 z1 z2 z3 z4
        go_wp2_with fail
        refine (wOut_any ρ11 1 wb lw (limOf l.length) 3 _ W11.out).mono ?_
        rintro en w12 ⟨v12, rfl, ho, hb⟩
        have ho' : w12.ownsRow w11.heap.size 5 1 v12 0 (bts []) := ho
        obtain ⟨a12, c12, rfl, _⟩ := own_shape ho'
        obtain ⟨C12, W12, R12, X12⟩ : Hid (Cx w ρ11 w12) ∧ Hid (IsW ρ11 1 w12 wb lw (limOf l.length) 3) ∧ Hid (IsR ρ11 2 w12 rb l 20) ∧ Hid (w12.heap[ob]? = some (.cells #[.int .i64 kd, .int .i64 wh, .int .i64 n, .int .u32 v, .slice ab B.length capb] 49 (0, 0))) :=
          ⟨hid (C11.out.more hb), hid (W11.out.moves (fun k hk _ => hb.block k hk) fun _ _ => rfl), hid (R11.out.moves (fun k hk _ => hb.block k hk) fun _ _ => rfl), hid ((hb.block ob (lt_of_block X11.out)).trans X11.out)⟩
        clear ho ho' hb C11 W11 R11 X11
        go_wp2_with fail
        refine (wErr_any ρ11 1 wb lw _ 3 _ W12.out).mono ?_
        rintro en w13 ⟨rfl, rfl⟩
        go_wp2_with fail
        refine (wLen_any ρ11 1 wb lw _ 3 _ W12.out).mono ?_
        rintro en w13 ⟨rfl, rfl⟩
        obtain ⟨q0, q1, q2, q3, q4, z0, z1, z2, z3, z4⟩ := cells5 X12.out
        go_wp2_with fail
        refine (rBytes_any ρ11 2 rb l 20 n _ R12.out).mono ?_
        rintro en w14 ⟨v14, rfl, ho, hR, hF⟩
        rw [(ask_err (by decide)).1] at ho
        have ho' : w14.ownsRow _ 5 1 v14 0 (bts []) := ho
        obtain ⟨a14, c14, rfl, _⟩ := own_shape ho'
        obtain ⟨C14, W14, R14⟩ : Hid (Cx w ρ11 w14) ∧ Hid (IsW ρ11 1 w14 wb lw (limOf l.length) 3) ∧ Hid (IsR ρ11 2 w14 rb l 20) :=
          ⟨hid (C12.out.step' hF (by decide)), hid (W12.out.moves (fun k hk hki => hF.block k hk (by rw [hki]; decide)) fun _ _ => rfl), hid (hR.cast (ask_err (by decide)).2.1 (ask_err (by decide)).2.2)⟩
        clear ho ho' hR hF C12 W12 R12 X12 q0 q1 q2 q3 q4 z0 z1 z2 z3 z4
        go_wp2_with fail
        refine (rU8_any ρ11 2 rb l 20 _ R14.out).mono ?_
        rintro en w15 ⟨rfl, hR, hF, _⟩
        obtain ⟨C15, W15, R15⟩ : Hid (Cx w ρ11 w15) ∧ Hid (IsW ρ11 1 w15 wb lw (limOf l.length) 3) ∧ Hid (IsR ρ11 2 w15 rb l 20) :=
          ⟨hid (C14.out.step' hF (by decide)), hid (W14.out.moves (fun k hk hki => hF.block k hk (by rw [hki]; decide)) fun _ _ => rfl), hid (hR.cast (take_err (by decide)).2.1 (take_err (by decide)).2.2)⟩
        clear hR hF C14 W14 R14
        rw [show bev (takeL l 20 1) = 0 by rw [(take_err (by decide)).1]; rfl]
        go_wp2_with fail
        refine (rU16_any ρ11 2 rb l 20 _ R15.out).mono ?_
        rintro en w16 ⟨rfl, hR, hF, _⟩
        obtain ⟨C16, W16, R16⟩ : Hid (Cx w ρ11 w16) ∧ Hid (IsW ρ11 1 w16 wb lw (limOf l.length) 3) ∧ Hid (IsR ρ11 2 w16 rb l 20) :=
          ⟨hid (C15.out.step' hF (by decide)), hid (W15.out.moves (fun k hk hki => hF.block k hk (by rw [hki]; decide)) fun _ _ => rfl), hid (hR.cast (take_err (by decide)).2.1 (take_err (by decide)).2.2)⟩
        clear hR hF C15 W15 R15
        rw [show bev (takeL l 20 2) = 0 by rw [(take_err (by decide)).1]; rfl]
        go_wp2_with fail
        refine (rU32_any ρ11 2 rb l 20 _ R16.out).mono ?_
        rintro en w17 ⟨rfl, hR, hF, _⟩
        obtain ⟨C17, W17, R17⟩ : Hid (Cx w ρ11 w17) ∧ Hid (IsW ρ11 1 w17 wb lw (limOf l.length) 3) ∧ Hid (IsR ρ11 2 w17 rb l 20) :=
          ⟨hid (C16.out.step' hF (by decide)), hid (W16.out.moves (fun k hk hki => hF.block k hk (by rw [hki]; decide)) fun _ _ => rfl), hid (hR.cast (take_err (by decide)).2.1 (take_err (by decide)).2.2)⟩
        clear hR hF C16 W16 R16
        rw [show bev (takeL l 20 4) = 0 by rw [(take_err (by decide)).1]; rfl]
        go_wp2_with fail
        refine (rErr_any ρ11 2 rb l 20 _ R17.out).mono ?_
        rintro en w18 ⟨rfl, rfl⟩
        go_wp2_with fail
        refine (rEnd_any ρ11 2 rb l 20 _ R17.out).mono ?_
        rintro en w18 ⟨rfl, rfl⟩
        rw [show endE l 20 = 20 by simp [endE]]
        go_wp2_with fail
        refine (rLeft_any ρ11 2 rb l 20 _ R17.out).mono ?_
        rintro en w18 ⟨rfl, rfl⟩
        have S18 := hid (show StState w wb rb (limOf l.length) lw l w18 from ⟨ρ11, C17.out, W17.out, R17.out⟩)
        clear C17 W17 R17
        go_wp2_with fail
        go_roundw
        case rel => first | exact ⟨k + 1, by omega, by go_num, S18.out⟩ | ((repeat apply Exists.intro); exact ⟨⟨k + 1, by omega, by go_num, S18.out⟩, rfl⟩)
        case measure => (simp [intOf]) <;> omega
      · have hkl : k = ops.length := by omega
        subst hkl
        go_wp2_with fail
        go_ret
        exact ⟨rfl, C.out.bel⟩

end Go.Proofs.Ytniiigidedcpaaa
