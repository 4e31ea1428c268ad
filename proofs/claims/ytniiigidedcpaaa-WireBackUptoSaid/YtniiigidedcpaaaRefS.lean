/-
  The document's reader of layer 2: Bytes, Number.
-/
import Derived.Test.YtniiigidedcpaaaRefR
namespace Go.Proofs.Ytniiigidedcpaaa
open Go.RowKit

theorem drop_take_succ {full : List Int} {rd k : Nat} (h : rd + k < full.length) : (full.drop rd).take (k + 1) = (full.drop rd).take k ++ [gt full (rd + k)] := by
  rw [take_snoc (by simp; omega)]
  congr 2
  simp only [gt, List.getD_eq_getElem?_getD, List.getElem?_drop]

/-- one block alone has the label 1 -/
def single (b : Nat) : Nat → Nat := fun k => if k = b then 1 else 0
theorem FrO.of_one {ρ : Nat → Nat} {i b : Nat} {w w' : World} (h : FrO (single b) 1 w w') (hb : ρ b = i) : FrO ρ i w w' :=
  ⟨h.os, h.tape, h.output, h.size, fun k hk hi => h.block k hk (by
    have : k ≠ b := fun e => hi (by rw [e]; exact hb)
    simp [single, this])⟩
theorem Rb.one {w w' : World} {rb : Nat} {sv v : Value} {r e : Int} {l : List Int} (h2 : w.heap[rb]? = some (.cells #[sv, .int .i64 r, .int .i64 e] 87 (0, 0))) (hs : ∀ k n, sv ≠ .int k n) (h : Rb w v l) (hf : FrO (single rb) 1 w w') : Rb w' v l :=
  h.move fun hn b hb hlt => hf.block b hlt (by
    obtain ⟨a, cap, rfl, _, _, h4⟩ := h.open
    rcases h4 with h0 | ⟨b', off, rfl, hc⟩
    · exact absurd (List.length_eq_zero_iff.1 h0) hn
    · simp only [Value.ownBlock, Option.some.injEq] at hb
      subst hb
      have := ncell_ne h2 hs (hc 0 (List.length_pos_iff.2 hn))
      simp [single, this])
/-- the round: k bytes were read -/
def NBytesRel (nb : Nat) (sv : Value) (full : List Int) (rd n : Nat) (w : World) (b t6 : Value) (wr : World) : Prop :=
  ∃ k q : Nat, q = rd + k ∧ k ≤ n ∧ t6 = .int .i64 k ∧ wr.heap[nb]? = some (.cells #[sv, .int .i64 q, .int .i64 0] 87 (0, 0)) ∧
    wr.ownsRow w.heap.size 5 1 b k (bts ((full.drop rd).take k)) ∧ FrO (single nb) 1 w wr
def NBytesPost (ρ : Nat → Nat) (i nb : Nat) (l : List Int) (e n : Int) (w : World) (en : Ending) (w' : World) : Prop :=
  ∃ v, en = .returned v ∧ w'.ownsRow w.heap.size 5 1 v (askL l e n).length (bts (askL l e n)) ∧ IsN ρ i w' nb (askR l e n) (askE l e n) ∧ FrO ρ i w w'

set_option maxHeartbeats 1600000 in
theorem nBytes_any (ρ : Nat → Nat) (i nb : Nat) (l : List Int) (e n : Int) (w : World) (h : IsN ρ i w nb l e) :
    Calls Try.prog 46 #[.pointer (some ⟨nb, 0, none⟩), .int .i64 n] w (NBytesPost ρ i nb l e n w) := by
  obtain ⟨i0, hi, hz0, hz1, hz2⟩ := info_parts Try.info5
  have H := hid h
  obtain ⟨h1, sv, full, rd, h2, h3, h4, h5, h6, h7⟩ := h
  obtain ⟨a, cap, rfl, hcp, hmx, hz⟩ := h6.open
  unfold maxLen at hmx
  obtain ⟨c0, c1, c2, f0, f1, f2⟩ := cells3 h5
  have H1 := hid h1
  have H4 := hid h4
  have H5 := hid h5
  have H6 := hid h6
  have H7 := hid h7
  have HZ := hid hz
  clear h1 h4 h5 h6 h7 hz
  by_cases he : e = 0
  · subst he
    by_cases hn : n < 0
    · have E1 := hid (show askE l 0 n = 1 by simp [askE, hn])
      have E2 := hid (show askL l 0 n = [] from if_pos hn)
      have E3 := hid (show askR l 0 n = l from if_pos hn)
      have hn' : decide (n < 0) = true := by simpa using hn
      go_enter Try.func46, Try.ntmps46
      go_wp2
      go_ret
      refine ⟨_, rfl, by rw [E2.out]; exact World.ownsRow_nil _ _ _ _, ?_, (H.out.err 1).2⟩
      rw [E1.out, E3.out]
      exact (H.out.err 1).1
    · obtain ⟨m, rfl⟩ := Int.eq_ofNat_of_zero_le (by omega : 0 ≤ n)
      have hn' : decide ((m : Int) < 0) = false := by simp
      by_cases hs : l.length < m
      · have E1 := hid (show askE l 0 m = 20 by rw [askE, if_neg hn]; simp [takeE, hs])
        have E2 := hid (show askL l 0 m = [] by rw [askL, if_neg hn]; simp [takeL, hs])
        have E3 := hid (show askR l 0 m = l by rw [askR, if_neg hn]; simp [restL, hs])
        have hs' : decide ((l.length : Int) < m) = true := by simpa using hs
        go_enter Try.func46, Try.ntmps46
        go_wp2_with fail
        refine (nLeft_any ρ i nb l 0 _ H.out).mono ?_
        rintro en w1 ⟨rfl, hS⟩
        have HS := hid hS
        have k2 := (hS.cell ⟨nb, 2, none⟩).trans c2
        have z2 := (hS.frozen ⟨nb, 2, none⟩).trans f2
        clear hS
        go_wp2_with fail
        go_ret
        have hp := (H.out.moves (w' := w1) (ρ' := ρ) (fun k _ _ => by rw [HS.out.heap]) (fun _ _ => rfl)).err 20
        refine ⟨_, rfl, by rw [E2.out]; exact World.ownsRow_nil _ _ _ _, ?_, (HS.out.fr ρ i).trans' hp.2⟩
        rw [E1.out, E3.out]
        exact hp.1
      · have E1 := hid (show askE l 0 m = 0 by rw [askE, if_neg hn]; simp [takeE, hs])
        have E2 := hid (show askL l 0 m = l.take m by rw [askL, if_neg hn]; simp [takeL, hs])
        have E3 := hid (show askR l 0 m = l.drop m by rw [askR, if_neg hn]; simp [restL, hs])
        have hs' : decide ((l.length : Int) < m) = false := by simpa using hs
        have hfl : rd + m ≤ full.length := by have := congrArg List.length H4.out; simp at this; omega
        go_enter Try.func46, Try.ntmps46
        go_wp2_with fail
        refine (nLeft_any ρ i nb l 0 _ H.out).mono ?_
        rintro en w1 ⟨rfl, hS⟩
        have HS := hid hS
        clear hS c0 c1 c2 f0 f1 f2
        go_wp2_with fail
        go_loopw [5, 6] (NBytesRel nb (.slice a full.length cap) full rd m w) (fun _ t _ => m - (intOf t).toNat)
        case atStart =>
          exact ⟨0, rd, rfl, Nat.zero_le _, rfl, by rw [HS.out.heap]; exact H5.out, World.ownsRow_nil _ _ _ _, HS.out.fr _ _⟩
        case round =>
          obtain ⟨k, q, hq, hk, rfl, hbk, hown, hfr⟩ := hrel
          have hrb : Rb wr (.slice a full.length cap) full := H6.out.one H5.out (fun k n' h => by cases h) hfr
          obtain ⟨a1, c1, rfl, _, _, _⟩ := own_shape hown
          obtain ⟨q0, q1, q2, z0, z1, z2⟩ := cells3 hbk
          have HO := hid hown
          have HF := hid hfr
          have HK := hid hbk
          have HR := hid hrb
          have hnb := lt_of_block hbk
          clear hown hfr hbk hrb
          by_cases hlt : k < m
          · obtain ⟨_, _, e', _, _, hz'⟩ := HR.out.open
            simp only [Value.slice.injEq, true_and] at e'
            obtain ⟨rfl, rfl⟩ := e'
            rcases hz' with h0 | ⟨b, off, rfl, hcell⟩
            · omega
            have hck := hcell q (by omega)
            have hqi : (q : Int) < full.length := by omega
            have hwq : IntKind.i64.wrap ((q : Int) + 1) = (q : Int) + 1 := IntWalk.i64_in _ (by omega)
            have hbw := World.block_lt_of_cell? _ _ hck
            have hx := H6.out.byt.bd q
            have hts := hid (drop_take_succ (full := full) (rd := rd) (k := k) (by omega))
            rw [← hq] at hts
            have HQ := hid hq
            clear hq
            clear hcell
            generalize hg : gt full q = x at *
            clear hg
            have hsz := HF.out.size
            go_wp2_with fail
            go_region_law ((refine step_append_bytes rfl _ _ 22 rfl w.heap.size 5 i0 _ Try.underlying22 hi hz0 hz1 hz2 rfl (.slice a1 k _) _ _ rfl (World.ownsRow.drew (World.ownsRow.alloc HO.out _)) _ [x] rfl (Rb.new (Byt.one hx.1 hx.2) (heap_alloc_new wr _) rfl rfl (by unfold maxLen; omega)) (by simp; omega) (by simp; omega) ?_; intro a2 cap2 w2 ho hg hat; obtain ⟨d0, d1, d2, g0, g1, g2⟩ := cells3 (nblock_grown HK.out HO.out (w0 := (wr.alloc _).drew) rfl hg)))
            all_goals
              go_wp2
              go_roundw
              case rel =>
                have hK2 := nblock_grown HK.out HO.out (w0 := (wr.alloc _).drew) rfl hg
                refine ⟨k + 1, q + 1, by have := HQ.out; omega, by omega, by go_num, heap_store hK2 _, own_move (by rw [hts.out, bts_append]; exact ho) fun b hb _ => Below.heap_setCell _ _ _ _ (nrow_ne hK2 ho hb), ?_⟩
                have f1 : FrO (ext (single nb) w.heap.size 1) 1 wr (wr.alloc (.cells #[.int .u8 x] 5)).drew := (FrO.of_below (bel_alloc wr _)).heap rfl rfl rfl rfl
                have f2 : FrO (ext (single nb) w.heap.size 1) 1 (wr.alloc (.cells #[.int .u8 x] 5)).drew w2 := FrO.grown hg fun g hgb => ext_new (HO.out.lt g hgb).1
                have hn1 : ext (single nb) w.heap.size 1 nb = 1 := by simp [ext, single]
                exact HF.out.trans ((f1.trans' f2).trans' (FrO.setCell hn1 _))
              case measure => (simp [intOf]) <;> omega
          · have hkm : k = m := by omega
            subst hkm
            go_wp2
            go_ret
            have hlen : (l.take k).length = k := by simp; omega
            refine ⟨_, rfl, ?_, ?_, HF.out.of_one H1.out⟩
            · rw [E2.out, hlen, H4.out]; exact HO.out
            · rw [E1.out, E3.out]
              have hK := HK.out
              rw [hq] at hK
              refine ⟨H1.out, _, full, rd + k, h2, hfl, by rw [H4.out, List.drop_drop], hK, HR.out, H7.out⟩
  · have E1 := hid (show askE l e n = e by unfold askE; split <;> simp [takeE, he])
    have E2 := hid (show askL l e n = [] by unfold askL; split <;> simp [takeL, he])
    have E3 := hid (show askR l e n = l by unfold askR; split <;> simp [restL, he])
    have he' : (e != 0) = true := by simpa using he
    clear he
    go_enter Try.func46, Try.ntmps46
    go_wp2
    go_ret
    refine ⟨_, rfl, by rw [E2.out]; exact World.ownsRow_nil _ _ _ _, ?_, FrO.refl _ _ _⟩
    rw [E1.out, E3.out]
    exact H.out

/-! ### Number -/
def NNumPost (ρ : Nat → Nat) (i nb : Nat) (l : List Int) (e : Int) (n : Nat) (w : World) (en : Ending) (w' : World) : Prop :=
  en = .returned (.int .u64 (bev (takeL l e n))) ∧ IsN ρ i w' nb (restL l e n) (takeE l e n) ∧ FrO ρ i w w'
theorem IsN.cast {ρ : Nat → Nat} {i : Nat} {w : World} {nb : Nat} {l l' : List Int} {e e' : Int} (h : IsN ρ i w nb l e) (hl : l = l') (he : e = e') : IsN ρ i w nb l' e' := by subst hl; subst he; exact h
theorem ask_nat (l : List Int) (e : Int) (n : Nat) : askE l e n = takeE l e n ∧ askL l e n = takeL l e n ∧ askR l e n = restL l e n := by
  have hn : ¬ ((n : Int) < 0) := by omega
  refine ⟨?_, ?_, ?_⟩
  · rw [askE, if_neg hn, Int.toNat_natCast]
  · rw [askL, if_neg hn, Int.toNat_natCast]
  · rw [askR, if_neg hn, Int.toNat_natCast]
def NBevRel (m : List Int) (v i : Value) : Prop := ∃ k : Nat, k ≤ m.length ∧ i = .int .i64 k ∧ v = .int .u64 (bev (m.take k))
set_option maxHeartbeats 800000 in
theorem nNumber_any (ρ : Nat → Nat) (i nb : Nat) (l : List Int) (e : Int) (n : Nat) (w : World) (h : IsN ρ i w nb l e) (hn1 : n ≤ 4) :
    Calls Try.prog 45 #[.pointer (some ⟨nb, 0, none⟩), .int .i64 n] w (NNumPost ρ i nb l e n w) := by
  have H := hid h
  clear h
  have hm : (takeL l e n).length ≤ 4 := by unfold takeL; split <;> simp; omega
  go_enter Try.func45, Try.ntmps45
  go_wp2_with fail
  refine (nBytes_any ρ i nb l e n _ H.out).mono ?_
  rintro en w1 ⟨v, rfl, hO, hN, hF⟩
  have HN := hid (hN.cast (ask_nat l e n).2.2 (ask_nat l e n).1)
  have HF := hid hF
  rw [(ask_nat l e n).2.1] at hO
  have hRb := Rb.of_own (by unfold takeL; split; exact Byt.nil; exact H.out.byt.take _) hO
  clear hN hF hO
  generalize hT : takeL l e n = T at *
  have HT := hid hT
  clear hT
  have HR := hid hRb
  obtain ⟨a, cap, rfl, hc, hx, hz⟩ := hRb.open
  have HZ := hid hz
  clear hRb hz
  go_wp2_with fail
  go_loop [6, 7] (fun v i => NBevRel T v i) (fun _ i => T.length - (intOf i).toNat)
  case atStart => exact ⟨0, Nat.zero_le _, rfl, by simp [bev]⟩
  case round =>
    obtain ⟨k, hk, rfl, rfl⟩ := hrel
    by_cases hlt : k < T.length
    · rcases HZ.out with h0 | ⟨b, off, rfl, hcell⟩
      · omega
      have hck := hcell k hlt
      clear hcell
      have hg := HR.out.byt.bd k
      have hbv := bev_bd (T.take k) (HR.out.byt.take k)
      have hts := hid (take_snoc (l := T) (k := k) hlt)
      rw [show (T.take k).length = k by rw [List.length_take]; omega] at hbv
      have hbv1 : bev (T.take k) < 16777216 := by
        have h3 : k ≤ 3 := by omega
        have h4 := hbv.2
        obtain rfl | rfl | rfl | rfl : k = 0 ∨ k = 1 ∨ k = 2 ∨ k = 3 := by omega
        all_goals (simp at h4 ⊢; try omega)
      have hbv0 := hbv.1
      clear hbv
      generalize hgg : gt T k = x at *
      generalize hvv : bev (T.take k) = y at *
      have HG := hid hgg
      have HV := hid hvv
      clear hgg hvv
      go_wp2
      go_round
      case rel =>
        refine ⟨k + 1, by omega, by go_num, ?_⟩
        rw [hts.out, bev_snoc, HV.out]
      case measure => (simp [intOf]) <;> omega
    · have hkn : k = T.length := by omega
      subst hkn
      go_wp2
      go_ret
      refine ⟨?_, HN.out, HF.out⟩
      rw [HT.out]
      rfl

end Go.Proofs.Ytniiigidedcpaaa
