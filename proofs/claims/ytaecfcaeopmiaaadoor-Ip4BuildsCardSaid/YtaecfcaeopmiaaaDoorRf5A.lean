/-
  mosaicref05: Options, Fields.
-/
import Derived.Test.YtaecfcaeopmiaaaDoorAdr4
import Derived.Test.YtaecfcaeopmiaaaDoorPl4
import Derived.Test.YtaecfcaeopmiaaaDoorSp
namespace Go.Proofs.YtaecfcaeopmiaaaDoor
open Go.RowKit

theorem valid_sm {l : List Int} (h : l.length ≤ 40 ∧ l.length % 4 = 0) : validB l = (parseL l).isSome := by unfold validB; simp [h.1, h.2]
theorem valid_bg {l : List Int} (h : ¬(l.length ≤ 40 ∧ l.length % 4 = 0)) : validB l = false := by
  unfold validB
  by_cases h1 : l.length ≤ 40
  · have h2 : ¬ l.length % 4 = 0 := fun e => h ⟨h1, e⟩
    simp [h2]
  · simp [h1]
def ROp (w0 : World) (l : List Int) (r : Bool) (t : Value) (wr : World) : Prop := ∃ a : Nat, a ≤ l.length ∧ t = .int .i64 a ∧ (parseL (l.drop a)).isSome = r ∧ w0 = wr
def ROz (w0 : World) (l : List Int) (a : Nat) (t : Value) (wr : World) : Prop := ∃ k : Nat, a ≤ k ∧ k ≤ l.length ∧ t = .int .i64 k ∧ zerosB ((l.drop a).take (k - a)) = true ∧ w0 = wr
theorem zerosB_next {l : List Int} {a k : Nat} (ha : a ≤ k) (hk : k < l.length) : zerosB ((l.drop a).take (k + 1 - a)) = (zerosB ((l.drop a).take (k - a)) && decide (gt l k = 0)) := by
  have e : gt (l.drop a) (k - a) = gt l k := by rw [← gt_dropk, Nat.add_sub_cancel' ha]
  rw [show k + 1 - a = (k - a) + 1 by omega, take_snoc (by simp; omega), e]
  simp [zerosB]
theorem zerosB_not {l : List Int} {a k : Nat} (ha : a ≤ k) (hk : k < l.length) (h : gt l k ≠ 0) : zerosB (l.drop a) = false := by
  cases hz : zerosB (l.drop a) with
  | false => rfl
  | true =>
    have e : gt (l.drop a) (k - a) = gt l k := by rw [← gt_dropk, Nat.add_sub_cancel' ha]
    simp only [zerosB, List.all_eq_true, decide_eq_true_eq] at hz
    have hl : k - a < (l.drop a).length := by simp; omega
    exact absurd (by rw [← e, gt_eq hl]; exact hz _ (List.getElem_mem hl)) h
set_option maxHeartbeats 3200000 in
theorem ropts_any (v : Value) (l : List Int) (w : World) (h : Rb w v l) : Calls Tryd.prog 41 #[v] w fun en w' => en = .returned (.bool (validB l)) ∧ w = w' := by
  have HB := hid h
  obtain ⟨ad, cap, rfl, hc, hm, hz⟩ := h.open
  unfold maxLen at hm
  have HZ := hid hz
  clear h hz
  by_cases hs : l.length ≤ 40 ∧ l.length % 4 = 0
  · rw [valid_sm hs]
    obtain ⟨h1, h2⟩ := hs
    have hd1 : decide ((40 : Int) < (l.length : Int)) = false := by simp; omega
    have hd2 : ((l.length : Int) % 4 != 0) = false := by simp; omega
    generalize hr : (parseL l).isSome = r
    go_enter Tryd.func41, Tryd.ntmps41
    go_wp2_with fail
    go_loopw [3] (fun t wr => ROp w l r t wr) (fun t _ => l.length - (intOf t).toNat)
    case atStart => exact ⟨0, Nat.zero_le _, rfl, by rw [List.drop_zero]; exact hr, rfl⟩
    case round =>
      obtain ⟨a, ha, rfl, hp, rfl⟩ := hrel
      clear hr
      have HP := hid hp
      clear hp
      by_cases hlt : a < l.length
      · rcases HZ.out with h0 | ⟨b, off, rfl, hcell⟩
        · omega
        have HC := hid hcell
        have ca := hcell a hlt
        have y0 := HB.out.byt.bd a
        clear hcell
        by_cases e0 : gt l a = 0
        · have PZ := hid (parse_zero hlt e0)
          rw [e0] at ca
          clear e0 y0
          go_wp2_with fail
          go_loopw [4] (fun t wr => ROz w l a t wr) (fun t _ => l.length - (intOf t).toNat)
          case atStart => exact ⟨a, Nat.le_refl _, ha, rfl, by simp [zerosB], rfl⟩
          case round =>
            obtain ⟨k, hak, hk, rfl, hz, rfl⟩ := hrel
            have HZ2 := hid hz
            clear hz
            by_cases hlk : k < l.length
            · have ck := HC.out k hlk
              have yk := HB.out.byt.bd k
              have e1 := hid (zerosB_next hak hlk)
              have e2 := hid (fun h => zerosB_not hak hlk h)
              generalize gt l k = x at *
              by_cases hx0 : x = 0
              · subst hx0
                clear e2
                go_wp2_with fail
                go_roundw
                case rel => exact ⟨k + 1, by omega, by omega, by go_num, by rw [e1.out, HZ2.out]; rfl, rfl⟩
                case measure => simp [intOf]; omega
              · have e3 := hid (show r = false by rw [← HP.out, PZ.out, e2.out hx0]; rfl)
                have hd : (x == 0) = false := by simp [hx0]
                have hd3 : (x != 0) = true := by simp [hx0]
                clear hx0 e1 e2
                go_wp2_with fail
                go_ret
                exact ⟨by rw [e3.out]; rfl, rfl⟩
            · have hkl : k = l.length := by omega
              subst hkl
              have e3 := hid (show r = true by
                have := HZ2.out
                rw [List.take_of_length_le (by simp)] at this
                rw [← HP.out, PZ.out, this]; rfl)
              go_wp2_with fail
              go_ret
              exact ⟨by rw [e3.out]; rfl, rfl⟩
        · have d0 : (gt l a == 0) = false := by simp [e0]
          by_cases e1 : gt l a = 1
          · have PO := hid (show (parseL (l.drop (a + 1))).isSome = r by
              have := HP.out
              rw [parse_one hlt e1] at this
              simpa using this)
            rw [e1] at ca
            clear d0 e0 e1 y0
            go_wp2_with fail
            go_roundw
            case rel => exact ⟨a + 1, by omega, by go_num, PO.out, rfl⟩
            case measure => simp [intOf]; omega
          · have d1 : (gt l a == 1) = false := by simp [e1]
            have h2' : 2 ≤ gt l a := by omega
            by_cases hsh : l.length ≤ a + 1
            · have e3 := hid (show r = false by rw [← HP.out, parse_short hlt h2' hsh]; rfl)
              have d2 : decide ((l.length : Int) ≤ (a : Int) + 1) = true := by simp; omega
              generalize gt l a = x at *
              clear e0 e1 h2'
              go_wp2_with fail
              go_ret
              exact ⟨by rw [e3.out]; rfl, rfl⟩
            · have hlt1 : a + 1 < l.length := by omega
              have cb := HC.out (a + 1) hlt1
              have y1 := HB.out.byt.bd (a + 1)
              have d2 : decide ((l.length : Int) ≤ (a : Int) + 1) = false := by simp; omega
              have i1 : ((a : Int) + 1) < (l.length : Int) := by omega
              by_cases hbad : gt l (a + 1) < 2 ∨ (l.length : Int) - a < gt l (a + 1)
              · have e3 := hid (show r = false by rw [← HP.out, parse_bad hlt1 h2' hbad]; rfl)
                generalize gt l (a + 1) = m at *
                generalize gt l a = x at *
                clear e0 e1 h2'
                by_cases hm2 : m < 2
                · have d3 : decide (m < 2) = true := decide_eq_true hm2
                  clear hbad
                  go_wp2_with fail
                  go_ret
                  exact ⟨by rw [e3.out]; rfl, rfl⟩
                · have d3 : decide (m < 2) = false := decide_eq_false hm2
                  have d4 : decide ((l.length : Int) < (a : Int) + m) = true := by simp; omega
                  clear hbad
                  go_wp2_with fail
                  go_ret
                  exact ⟨by rw [e3.out]; rfl, rfl⟩
              · obtain ⟨m, hmm⟩ : ∃ m : Nat, gt l (a + 1) = m := ⟨(gt l (a + 1)).toNat, by rw [Int.toNat_of_nonneg y1.1]⟩
                have hm2 : 2 ≤ m := by omega
                have ham : a + m ≤ l.length := by omega
                have PO := hid (show (parseL (l.drop (a + m))).isSome = r by
                  have := HP.out
                  rw [parse_opt ham h2' hmm hm2] at this
                  simpa using this)
                rw [hmm] at cb y1
                have d3 : decide ((m : Int) < 2) = false := by simp; omega
                have d4 : decide ((l.length : Int) < (a : Int) + m) = false := by simp; omega
                generalize gt l a = x at *
                clear e0 e1 h2' hbad hmm
                go_wp2_with fail
                go_roundw
                case rel => exact ⟨a + m, by omega, by go_num, PO.out, rfl⟩
                case measure => simp [intOf]; omega
      · have hkl : a = l.length := by omega
        subst hkl
        have e3 := hid (show r = true by rw [← HP.out, parse_end]; rfl)
        go_wp2_with fail
        go_ret
        exact ⟨by rw [e3.out]; rfl, rfl⟩
  · rw [valid_bg hs]
    by_cases h1 : l.length ≤ 40
    · have hd1 : decide ((40 : Int) < (l.length : Int)) = false := by simp; omega
      have hd2 : ((l.length : Int) % 4 != 0) = true := by simp; omega
      clear hs
      go_enter Tryd.func41, Tryd.ntmps41
      go_wp2_with fail
      go_ret
      exact ⟨rfl, rfl⟩
    · have hd1 : decide ((40 : Int) < (l.length : Int)) = true := by simp; omega
      clear hs
      by_cases h2 : l.length % 4 = 0
      · have hd2 : ((l.length : Int) % 4 != 0) = false := by simp; omega
        go_enter Tryd.func41, Tryd.ntmps41
        go_wp2_with fail
        go_ret
        exact ⟨rfl, rfl⟩
      · have hd2 : ((l.length : Int) % 4 != 0) = true := by simp; omega
        go_enter Tryd.func41, Tryd.ntmps41
        go_wp2_with fail
        go_ret
        exact ⟨rfl, rfl⟩
/-- right but for its options -/
def fields4 (p : Pk) (no n : Nat) : Bool :=
  decide (p.V = 4 ∧ p.Flow = 0 ∧ p.Frag = false ∧ p.ID ≤ 65535) && four4 p.sV p.sB && four4 p.dV p.dB && decide ((0 ≤ p.TOS ∧ p.TOS ≤ 255) ∧ (0 ≤ p.Proto ∧ p.Proto ≤ 255) ∧ 0 ≤ p.TTL ∧ p.TTL ≤ 255) &&
    placed4 p n && decide (20 + no + n ≤ 65535)
theorem right4_fields (p : Pk) (os : List Int) (n : Nat) : right4 p os n = (fields4 p os.length n && validB os) := by
  unfold right4 fields4
  generalize decide (p.V = 4 ∧ p.Flow = 0 ∧ p.Frag = false ∧ p.ID ≤ 65535) = a
  generalize four4 p.sV p.sB = b
  generalize four4 p.dV p.dB = c
  generalize decide ((0 ≤ p.TOS ∧ p.TOS ≤ 255) ∧ (0 ≤ p.Proto ∧ p.Proto ≤ 255) ∧ 0 ≤ p.TTL ∧ p.TTL ≤ 255) = d
  generalize placed4 p n = e
  generalize validB os = f
  generalize decide (20 + os.length + n ≤ 65535) = g
  cases a <;> cases b <;> cases c <;> cases d <;> cases e <;> cases f <;> cases g <;> rfl
theorem z4_four (V : Int) (bs : List Int) : z4 V bs = four4 V bs := by unfold z4 four4; exact Bool.and_comm ..
set_option maxHeartbeats 4000000 in
set_option maxRecDepth 20000 in
theorem rfields_any (p : Pk) (os xs : List Int) (w : World) (h : Pin w p os xs) (hl : os.length ≤ 140737488355328 ∧ xs.length ≤ 140737488355328) : Calls Tryd.prog 40 #[.agg (pkC p)] w (APost w (.bool (fields4 p os.length xs.length))) := by
  obtain ⟨hp, ho, hx⟩ := h
  have L1 := hp.src.len
  have L2 := hp.dst.len
  have A1 := hid (fun W => (show Calls Tryd.prog 63 #[.agg (addrC p.sV p.sB)] W (APost W (.bool (four4 p.sV p.sB))) from by rw [← z4_four]; exact addr4_any _ _ W hp.src))
  have A2 := hid (fun W => (show Calls Tryd.prog 63 #[.agg (addrC p.dV p.dB)] W (APost W (.bool (four4 p.dV p.dB))) from by rw [← z4_four]; exact addr4_any _ _ W hp.dst))
  have ID0 := hp.id0
  have ID1 := hp.id1
  obtain ⟨oa, oc, eo, hoc, hom, _⟩ := ho.open
  obtain ⟨xa, xc, ex, hxc, hxm, _⟩ := hx.open
  unfold maxLen at hom hxm
  have RE : Hid (fields4 p os.length xs.length = (decide (p.V = 4 ∧ p.Flow = 0 ∧ p.Frag = false ∧ p.ID ≤ 65535) && four4 p.sV p.sB && four4 p.dV p.dB && decide ((0 ≤ p.TOS ∧ p.TOS ≤ 255) ∧ (0 ≤ p.Proto ∧ p.Proto ≤ 255) ∧ 0 ≤ p.TTL ∧ p.TTL ≤ 255) &&
    decide ((0 ≤ p.Off ∧ p.Off ≤ 65528 ∧ p.Off % 8 = 0 ∧ p.Off + xs.length ≤ 65535) ∧ (p.More = true → xs.length ≠ 0 ∧ xs.length % 8 = 0) ∧ (p.Off = 0 ∨ 0 < xs.length)) && decide (20 + os.length + xs.length ≤ 65535))) := hid rfl
  have P := hid (fun en w' c (h1 : en = .returned (.bool c)) (hc : c = fields4 p os.length xs.length) (h2 : Sp w w' []) => show APost w (.bool (fields4 p os.length xs.length)) en w' from ⟨by rw [h1, hc], h2.bel⟩)
  generalize fields4 p os.length xs.length = r at *
  generalize os.length = on at *
  generalize xs.length = n at *
  generalize four4 p.sV p.sB = f1 at *
  generalize four4 p.dV p.dB = f2 at *
  have S : Hid (Sp w (w.alloc (.cells (pkC p) 30)) [.blk w.heap.size (pkC p) 30]) := hid (Sp.in1 ..)
  obtain ⟨V, TOS, Flow, sV, sB, dV, dB, Proto, TTL, ID, DF, More, Frag, Off, ov, xv⟩ := p
  simp only at *
  subst eo ex
  have hadd2 : wrap64 (20 + (on : Int)) = 20 + (on : Int) := IntWalk.wrap64_in _ (by omega)
  have hadd3 : wrap64 (20 + (on : Int) + (n : Int)) = 20 + (on : Int) + (n : Int) := IntWalk.wrap64_in _ (by omega)
  have hln : (n : Int) ≤ 140737488355328 := by omega
  clear ho hx hp hxm hxc hom hoc hl
  go_enter Tryd.func40, Tryd.ntmps40
  go_upto_region 1 with fail
  generalize w.alloc (.cells (pkC _) 30) = w' at *
  generalize w.heap.size = b at *
  cases More <;> cases Frag
  all_goals (
  go_wp2_with (first
    | go_skip
    | ((with_reducible show wpList _ _ _ _ _ _); first | ((with_reducible show wpList _ _ _ (⟨_, .binOp _ _ _ _ _, _, _, _, _⟩ :: _) _ _); refine wpList_cmp (by rfl) _ (by rfl) _ _ _ _ rfl _ (by go_simp; exact rfl) ?_ ?_ <;> (intro hc; (try simp only [decide_eq_true_eq, decide_eq_false_iff_not, Int.not_lt] at hc))) | ((with_reducible show wpList _ _ _ (⟨_, .load _ _, _, _, _, _⟩ :: _) _ _); first | (refine wpList_load_src (by rfl) _ rfl _ _ rfl (S.out.pk 0 rfl) (by first | rfl | assumption) ?_) | (refine wpList_load_dst (by rfl) _ rfl _ _ rfl (S.out.pk 0 rfl) (by first | rfl | assumption) (by first | rfl | assumption) ?_) | (refine wpList_load_src (by rfl) _ rfl _ _ rfl (S.out.pk 1 rfl) (by first | rfl | assumption) ?_) | (refine wpList_load_dst (by rfl) _ rfl _ _ rfl (S.out.pk 1 rfl) (by first | rfl | assumption) (by first | rfl | assumption) ?_) | (refine wpList_load_src (by rfl) _ rfl _ _ rfl (S.out.pk 2 rfl) (by first | rfl | assumption) ?_) | (refine wpList_load_dst (by rfl) _ rfl _ _ rfl (S.out.pk 2 rfl) (by first | rfl | assumption) (by first | rfl | assumption) ?_)) | ((with_reducible show wpList _ _ _ (⟨_, .load _ _, _, _, _, _⟩ :: _) _ _); first | (first | (refine wpList_getW (by rfl) _ rfl S.out _ rfl 0 _ rfl (by first | rfl | assumption) (by first | rfl | assumption) ?_) | (refine wpList_getW (by rfl) _ rfl S.out _ rfl 1 _ rfl (by first | rfl | assumption) (by first | rfl | assumption) ?_) | (refine wpList_getW (by rfl) _ rfl S.out _ rfl 2 _ rfl (by first | rfl | assumption) (by first | rfl | assumption) ?_) | (refine wpList_getW (by rfl) _ rfl S.out _ rfl 3 _ rfl (by first | rfl | assumption) (by first | rfl | assumption) ?_) | (refine wpList_getW (by rfl) _ rfl S.out _ rfl 4 _ rfl (by first | rfl | assumption) (by first | rfl | assumption) ?_) | (refine wpList_getW (by rfl) _ rfl S.out _ rfl 5 _ rfl (by first | rfl | assumption) (by first | rfl | assumption) ?_)) | (first | (refine wpList_get_pk (by rfl) _ _ rfl S.out _ _ rfl 0 _ rfl _ rfl (by rfl) (by first | rfl | assumption) (by first | rfl | assumption) ?_) | (refine wpList_get_pk (by rfl) _ _ rfl S.out _ _ rfl 1 _ rfl _ rfl (by rfl) (by first | rfl | assumption) (by first | rfl | assumption) ?_) | (refine wpList_get_pk (by rfl) _ _ rfl S.out _ _ rfl 2 _ rfl _ rfl (by rfl) (by first | rfl | assumption) (by first | rfl | assumption) ?_) | (refine wpList_get_pk (by rfl) _ _ rfl S.out _ _ rfl 3 _ rfl _ rfl (by rfl) (by first | rfl | assumption) (by first | rfl | assumption) ?_) | (refine wpList_get_pk (by rfl) _ _ rfl S.out _ _ rfl 4 _ rfl _ rfl (by rfl) (by first | rfl | assumption) (by first | rfl | assumption) ?_) | (refine wpList_get_pk (by rfl) _ _ rfl S.out _ _ rfl 5 _ rfl _ rfl (by rfl) (by first | rfl | assumption) (by first | rfl | assumption) ?_))))
    | (go_at_call 63; first | ((have M3 := M2); refine (A2.out _).mono ?_; rintro en w' ⟨rfl, hb⟩; replace S := hid (S.out.keep hb); clear hb; cases f2) | (refine (A1.out _).mono ?_; have M2 := True.intro; rintro en w' ⟨rfl, hb⟩; replace S := hid (S.out.keep hb); clear hb; cases f1))))
  all_goals
    go_ret
    refine P.out _ _ _ rfl ?_ S.out.nil
    have hr := RE.out
    clear RE S P hadd2 hadd3 hln A1 A2
    rw [hr]
    clear hr
    simp only [bne_iff_ne, ne_eq, bne_eq_false_iff_eq, beq_iff_eq, beq_eq_false_iff_ne] at *
  all_goals first
    | (simp; omega)
    | (simp_all; done)
    | (simp_all; omega)
    | skip
  all_goals trace_state
end Go.Proofs.YtaecfcaeopmiaaaDoor
