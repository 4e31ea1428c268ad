/-
  ip4: four, within, placed, Right, Head, flags.
-/
import Derived.Test.YtaecfcaeopmiaaaDoorPl4
import Derived.Test.YtaecfcaeopmiaaaDoorSp
import Derived.Test.YtaecfcaeopmiaaaDoorV05
namespace Go.Proofs.YtaecfcaeopmiaaaDoor
open Go.RowKit

theorem hid_iff {p : Prop} : Hid p ↔ p := ⟨fun h => h.out, hid⟩
theorem four_any (V : Int) (bs : List Int) (w : World) (h : IsA V bs) : Calls Tryd.prog 51 #[.agg (addrC V bs)] w (APost w (.bool (four4 V bs))) := by
  have H := hid h
  have A := hid (AddrAt.alloc w V bs)
  have c0 := A.out.v
  have BB := hid (bel_alloc w (.cells (addrC V bs) 27))
  have VA := hid (fun W => valid_any V bs W h)
  have VV := hid (show V = 4 → validA V bs = zerosB (bs.drop 4) from fun hv => by subst hv; rfl)
  have FF := hid (show four4 V bs = (decide (V = 4) && zerosB (bs.drop 4)) from rfl)
  generalize validA V bs = v at *
  generalize four4 V bs = f at *
  generalize zerosB (bs.drop 4) = z at *
  clear h
  unfold addrV at *
  go_enter Tryd.func51, Tryd.ntmps51
  go_upto_region 1 with fail
  generalize w.alloc (.cells (addrC V bs) 27) = w1 at *
  go_wp2_with (first
    | go_skip
    | ((with_reducible show wpList _ _ _ _ _ _); first | ((with_reducible show wpList _ _ _ (⟨_, .binOp _ _ _ _ _, _, _, _, _⟩ :: _) _ _); refine wpList_cmp (by rfl) _ (by rfl) _ _ _ _ rfl _ (by go_simp; exact rfl) ?_ ?_ <;> (intro hc; (try simp only [decide_eq_true_eq, decide_eq_false_iff_not, Int.not_lt] at hc); go_prune)) | (refine wpList_load_addr (by rfl) _ rfl _ _ _ rfl A.out H.out.len ?_))
    | (go_at_call 68; refine (VA.out _).mono ?_; rintro en w' ⟨rfl, hb⟩; have c0 := (AddrAt.v (blk_bel A.out hb) : w'.cell? _ = some (.int .i64 V)); replace BB := hid (BB.out.trans (hb.mono BB.out.size)); clear hb))
  all_goals
    go_ret
    clear VA
    refine ⟨?_, BB.out⟩
    have hv := VV.out
    have hf := FF.out
    show Ending.returned (.bool _) = _
    simp_all
theorem within_any (n m : Int) (w : World) : Calls Tryd.prog 52 #[.int .i64 n, .int .i64 m] w (APost w (.bool (decide (0 ≤ n ∧ n ≤ m)))) := by
  go_enter Tryd.func52, Tryd.ntmps52
  go_wp2_with (first | go_skip | ((with_reducible show wpList _ _ _ _ _ _); (with_reducible show wpList _ _ _ (⟨_, .binOp _ _ _ _ _, _, _, _, _⟩ :: _) _ _); refine wpList_cmp (by rfl) _ (by rfl) _ _ _ _ rfl _ (by go_simp; exact rfl) ?_ ?_ <;> (intro hc; (try simp only [decide_eq_true_eq, decide_eq_false_iff_not] at hc); go_prune)))
  all_goals
    go_ret
    refine ⟨?_, Below.refl _ _⟩
    show Ending.returned (.bool _) = _
    first
    | (simp_all; done)
    | (congr 2; simp; omega)
/-- a call that tells a bool: its answer as a variable -/
def BHid (w : World) (c : Bool) (en : Ending) (w' : World) : Prop := ∃ r, Hid (c = r) ∧ en = .returned (.bool r) ∧ Below w.heap.size w w'
theorem APost.bhid {w w' : World} {c : Bool} {en : Ending} (h : APost w (.bool c) en w') : BHid w c en w' := ⟨c, hid rfl, h.1, h.2⟩
set_option maxHeartbeats 2000000 in
set_option maxRecDepth 20000 in
theorem placed_any (p : Pk) (os xs : List Int) (w : World) (h : Pin w p os xs) (hl : xs.length ≤ 140737488355328) : Calls Tryd.prog 33 #[.agg (pkC p)] w (APost w (.bool (placed4 p xs.length))) := by
  obtain ⟨hp, ho, hx⟩ := h
  have H1 := hp.src
  have H2 := hp.dst
  obtain ⟨oa, oc, eo, hoc, hom, _⟩ := ho.open
  obtain ⟨xa, xc, ex, hxc, hxm, _⟩ := hx.open
  unfold maxLen at hom hxm
  rcases p with ⟨V, TOS, Flow, sV, sB, dV, dB, Proto, TTL, ID, DF, More, Frag, Off, ov, xv⟩
  simp only at eo ex H1 H2
  subst eo ex
  have L1 := H1.len
  have L2 := H2.len
  have RE := hid (show placed4 ⟨V, TOS, Flow, sV, sB, dV, dB, Proto, TTL, ID, DF, More, Frag, Off, .slice oa os.length oc, .slice xa xs.length xc⟩ xs.length = decide ((0 ≤ Off ∧ Off ≤ 65528 ∧ Off % 8 = 0 ∧ Off + xs.length ≤ 65535) ∧ (More = true → xs.length ≠ 0 ∧ xs.length % 8 = 0) ∧ (Off = 0 ∨ 0 < xs.length)) from rfl)
  have S := hid (Sp.in1 w (pkC ⟨V, TOS, Flow, sV, sB, dV, dB, Proto, TTL, ID, DF, More, Frag, Off, .slice oa os.length oc, .slice xa xs.length xc⟩) 30)
  generalize placed4 _ xs.length = r at *
  generalize os.length = on at *
  generalize xs.length = n at *
  clear ho hx hp H1 H2
  have W1 := hid (fun W => (within_any Off 65528 W).mono fun _ _ h => h.bhid)
  have sOff : 0 ≤ Off → Off ≤ 65528 → IntKind.i64.wrap (Off + (n : Int)) = Off + n := fun a b => IntWalk.i64_in _ (by omega)
  go_enter Tryd.func33, Tryd.ntmps33
  go_upto_region 1 with fail
  generalize w.alloc _ = w' at *
  generalize w.heap.size = b at *
  go_wp2_with (first
    | go_skip
    | ((with_reducible show wpList _ _ _ _ _ _); first | ((with_reducible show wpList _ _ _ (⟨_, .binOp _ _ _ _ _, _, _, _, _⟩ :: _) _ _); refine wpList_cmp (by rfl) _ (by rfl) _ _ _ _ rfl _ (by go_simp; exact rfl) ?_ ?_ <;> (intro hc; (try simp only [decide_eq_true_eq, decide_eq_false_iff_not, Int.not_lt] at hc); go_prune)) | (((with_reducible show wpList _ _ _ (⟨_, .load _ _, _, _, _, _⟩ :: _) _ _); first | (first | (refine wpList_getW (by rfl) _ rfl S.out _ rfl 0 _ rfl (by first | rfl | assumption) (by first | rfl | assumption) ?_) | (refine wpList_getW (by rfl) _ rfl S.out _ rfl 1 _ rfl (by first | rfl | assumption) (by first | rfl | assumption) ?_) | (refine wpList_getW (by rfl) _ rfl S.out _ rfl 2 _ rfl (by first | rfl | assumption) (by first | rfl | assumption) ?_) | (refine wpList_getW (by rfl) _ rfl S.out _ rfl 3 _ rfl (by first | rfl | assumption) (by first | rfl | assumption) ?_) | (refine wpList_getW (by rfl) _ rfl S.out _ rfl 4 _ rfl (by first | rfl | assumption) (by first | rfl | assumption) ?_) | (refine wpList_getW (by rfl) _ rfl S.out _ rfl 5 _ rfl (by first | rfl | assumption) (by first | rfl | assumption) ?_)) | (first | (refine wpList_get_pk (by rfl) _ _ rfl S.out _ _ rfl 0 _ rfl _ rfl (by rfl) (by first | rfl | assumption) (by first | rfl | assumption) ?_) | (refine wpList_get_pk (by rfl) _ _ rfl S.out _ _ rfl 1 _ rfl _ rfl (by rfl) (by first | rfl | assumption) (by first | rfl | assumption) ?_) | (refine wpList_get_pk (by rfl) _ _ rfl S.out _ _ rfl 2 _ rfl _ rfl (by rfl) (by first | rfl | assumption) (by first | rfl | assumption) ?_) | (refine wpList_get_pk (by rfl) _ _ rfl S.out _ _ rfl 3 _ rfl _ rfl (by rfl) (by first | rfl | assumption) (by first | rfl | assumption) ?_) | (refine wpList_get_pk (by rfl) _ _ rfl S.out _ _ rfl 4 _ rfl _ rfl (by rfl) (by first | rfl | assumption) (by first | rfl | assumption) ?_) | (refine wpList_get_pk (by rfl) _ _ rfl S.out _ _ rfl 5 _ rfl _ rfl (by rfl) (by first | rfl | assumption) (by first | rfl | assumption) ?_)))))
    | (go_at_call 52; refine (W1.out _).mono ?_; rintro en w' ⟨r1, R1, rfl, hb⟩; replace S := hid (S.out.keep hb); clear hb; cases r1 <;> (have r0 := R1.out; simp only [decide_eq_true_eq, decide_eq_false_iff_not] at r0)))
  all_goals
    go_ret
    refine ⟨?_, S.out.bel⟩
    have hr := RE.out
    clear RE S W1
    show Ending.returned (.bool _) = _
    rw [hr]
    simp only [hid_iff, bne_iff_ne, bne_eq_false_iff_eq, beq_iff_eq, beq_eq_false_iff_ne, ne_eq] at *
    congr 2
    clear hr
  all_goals first
    | (exact (decide_eq_false (by omega)).symm)
    | (exact (decide_eq_true (by omega)).symm)
    | (simp_all; done)
    | (simp_all; omega)
    | skip
set_option maxHeartbeats 400000 in
set_option maxRecDepth 20000 in
theorem right4_any (p : Pk) (os xs : List Int) (w : World) (h : Pin w p os xs) (hT : Tab w) (hl : os.length ≤ 140737488355328 ∧ xs.length ≤ 140737488355328) : Calls Tryd.prog 20 #[.agg (pkC p)] w (APost w (.bool (right4 p os xs.length))) := by
  have PI := hid h
  have TB := hid hT
  obtain ⟨hp, ho, hx⟩ := h
  have H1 := hp.src
  have H2 := hp.dst
  have PL := hid (fun W (hP : Pin W p os xs) => (placed_any p os xs W hP hl.2).mono fun _ _ h => h.bhid)
  have FR := hid (fun V bs W (h : IsA V bs) => (four_any V bs W h).mono fun _ _ h => h.bhid)
  have I1 := hid H1
  have I2 := hid H2
  have OV := hid (fun W (hW : Below w.heap.size w W) => (optsValid_any p.ov os W (ho.below hW) (hT.below hW)).mono (R' := BHid W (validB os)) fun _ _ h => ⟨_, hid rfl, h.1, h.2⟩)
  have WI := hid (fun n m W => (within_any n m W).mono fun _ _ h => h.bhid)
  have RE := hid (show right4 p os xs.length = (decide (p.V = 4 ∧ p.Flow = 0 ∧ p.Frag = false ∧ p.ID ≤ 65535) && four4 p.sV p.sB && four4 p.dV p.dB && decide ((0 ≤ p.TOS ∧ p.TOS ≤ 255) ∧ (0 ≤ p.Proto ∧ p.Proto ≤ 255) ∧ 0 ≤ p.TTL ∧ p.TTL ≤ 255) &&
    placed4 p xs.length && validB os && decide (20 + os.length + xs.length ≤ 65535)) from rfl)
  have ID0 := hp.id0
  have ID1 := hp.id1
  obtain ⟨oa, oc, eo, hoc, hom, _⟩ := ho.open
  obtain ⟨xa, xc, ex, hxc, hxm, _⟩ := hx.open
  unfold maxLen at hom hxm
  rcases p with ⟨V, TOS, Flow, sV, sB, dV, dB, Proto, TTL, ID, DF, More, Frag, Off, ov, xv⟩
  simp only at eo ex H1 H2 I1 I2 ID0 ID1 OV RE
  subst eo ex
  have L1 := H1.len
  have L2 := H2.len
  have S := hid (Sp.in1 w (pkC ⟨V, TOS, Flow, sV, sB, dV, dB, Proto, TTL, ID, DF, More, Frag, Off, .slice oa os.length oc, .slice xa xs.length xc⟩) 30)
  generalize right4 _ os xs.length = r at *
  generalize placed4 _ xs.length = pl at *
  generalize validB os = vb at *
  have s1 : IntKind.i64.wrap (20 + (os.length : Int)) = 20 + os.length := IntWalk.i64_in _ (by omega)
  have s2 : IntKind.i64.wrap (20 + (os.length : Int) + (xs.length : Int)) = 20 + os.length + xs.length := IntWalk.i64_in _ (by omega)
  generalize hon : os.length = on at *
  generalize hn : xs.length = n at *
  clear ho hx hp H1 H2 hT
  cases Frag
  all_goals (
  go_enter Tryd.func20, Tryd.ntmps20
  go_upto_region 1 with fail
  generalize w.alloc _ = w' at *
  generalize hb0 : w.heap.size = b at *
  go_wp2_with (first
    | go_skip
    | ((with_reducible show wpList _ _ _ _ _ _); first | ((with_reducible show wpList _ _ _ (⟨_, .binOp _ _ _ _ _, _, _, _, _⟩ :: _) _ _); refine wpList_cmp (by rfl) _ (by rfl) _ _ _ _ rfl _ (by go_simp; exact rfl) ?_ ?_ <;> (intro hc; (try simp only [decide_eq_true_eq, decide_eq_false_iff_not, Int.not_lt] at hc))) | (((with_reducible show wpList _ _ _ (⟨_, .load 27 _, _, _, _, _⟩ :: _) _ _); first | (refine wpList_load_src (by rfl) _ rfl _ _ rfl (S.out.pk 0 rfl) (by first | rfl | assumption) ?_) | (refine wpList_load_dst (by rfl) _ rfl _ _ rfl (S.out.pk 0 rfl) (by first | rfl | assumption) (by first | rfl | assumption) ?_) | (refine wpList_load_src (by rfl) _ rfl _ _ rfl (S.out.pk 1 rfl) (by first | rfl | assumption) ?_) | (refine wpList_load_dst (by rfl) _ rfl _ _ rfl (S.out.pk 1 rfl) (by first | rfl | assumption) (by first | rfl | assumption) ?_) | (refine wpList_load_src (by rfl) _ rfl _ _ rfl (S.out.pk 2 rfl) (by first | rfl | assumption) ?_) | (refine wpList_load_dst (by rfl) _ rfl _ _ rfl (S.out.pk 2 rfl) (by first | rfl | assumption) (by first | rfl | assumption) ?_))) | (((with_reducible show wpList _ _ _ (⟨_, .load 30 _, _, _, _, _⟩ :: _) _ _); first | (refine wpList_getW (by rfl) _ rfl S.out _ rfl 0 _ rfl (by first | rfl | assumption) (by first | rfl | assumption) ?_) | (refine wpList_getW (by rfl) _ rfl S.out _ rfl 1 _ rfl (by first | rfl | assumption) (by first | rfl | assumption) ?_) | (refine wpList_getW (by rfl) _ rfl S.out _ rfl 2 _ rfl (by first | rfl | assumption) (by first | rfl | assumption) ?_) | (refine wpList_getW (by rfl) _ rfl S.out _ rfl 3 _ rfl (by first | rfl | assumption) (by first | rfl | assumption) ?_) | (refine wpList_getW (by rfl) _ rfl S.out _ rfl 4 _ rfl (by first | rfl | assumption) (by first | rfl | assumption) ?_) | (refine wpList_getW (by rfl) _ rfl S.out _ rfl 5 _ rfl (by first | rfl | assumption) (by first | rfl | assumption) ?_))) | ((with_reducible show wpList _ _ _ (⟨_, .load _ _, _, _, _, _⟩ :: _) _ _); first | (refine wpList_get_pk (by rfl) _ _ rfl S.out _ _ rfl 0 _ rfl _ rfl (by rfl) (by first | rfl | assumption) (by first | rfl | assumption) ?_) | (refine wpList_get_pk (by rfl) _ _ rfl S.out _ _ rfl 1 _ rfl _ rfl (by rfl) (by first | rfl | assumption) (by first | rfl | assumption) ?_) | (refine wpList_get_pk (by rfl) _ _ rfl S.out _ _ rfl 2 _ rfl _ rfl (by rfl) (by first | rfl | assumption) (by first | rfl | assumption) ?_) | (refine wpList_get_pk (by rfl) _ _ rfl S.out _ _ rfl 3 _ rfl _ rfl (by rfl) (by first | rfl | assumption) (by first | rfl | assumption) ?_) | (refine wpList_get_pk (by rfl) _ _ rfl S.out _ _ rfl 4 _ rfl _ rfl (by rfl) (by first | rfl | assumption) (by first | rfl | assumption) ?_) | (refine wpList_get_pk (by rfl) _ _ rfl S.out _ _ rfl 5 _ rfl _ rfl (by rfl) (by first | rfl | assumption) (by first | rfl | assumption) ?_)))
    | (go_at_call 52; refine (WI.out _ _ _).mono ?_; rintro en w' ⟨r1, R1, rfl, hb⟩; replace S := hid (S.out.keep hb); clear hb; cases r1 <;> (have r0 := R1.out; (try simp only [decide_eq_true_eq, decide_eq_false_iff_not] at r0); clear R1))
    | (go_at_call 33; refine (PL.out _ (PI.out.below S.out.bel)).mono ?_; rintro en w' ⟨r1, R1, rfl, hb⟩; replace S := hid (S.out.keep hb); clear hb; cases r1 <;> (have r0 := R1.out; (try simp only [decide_eq_true_eq, decide_eq_false_iff_not] at r0); clear R1))
    | (go_at_call 34; refine (OV.out _ (by have := S.out.bel; rwa [hb0] at this)).mono ?_; rintro en w' ⟨r1, R1, rfl, hb⟩; replace S := hid (S.out.keep hb); clear hb; cases r1 <;> (have r0 := R1.out; (try simp only [decide_eq_true_eq, decide_eq_false_iff_not] at r0); clear R1))
    | (go_at_call 51; refine (FR.out _ _ _ (by first | exact I1.out | exact I2.out)).mono ?_; rintro en w' ⟨r1, R1, rfl, hb⟩; replace S := hid (S.out.keep hb); clear hb; cases r1 <;> (have r0 := R1.out; (try simp only [decide_eq_true_eq, decide_eq_false_iff_not] at r0); clear R1)))
  all_goals
    go_ret
    refine ⟨?_, S.out.bel⟩
    have hr := RE.out
    clear RE S WI PL OV FR I1 I2 PI TB
    show Ending.returned (.bool _) = _
    rw [hr]
    simp only [bne_iff_ne, bne_eq_false_iff_eq, ne_eq] at *
    congr 2
    clear hr
  all_goals first
    | (refine (Bool.eq_false_iff.2 fun hz => ?_).symm
       simp only [Bool.and_eq_true, decide_eq_true_eq] at hz
       obtain ⟨⟨⟨⟨⟨⟨a1, a2⟩, a3⟩, a4⟩, a5⟩, a6⟩, a7⟩ := hz
       first
       | omega
       | (simp_all; done))
    | (symm
       simp only [Bool.and_eq_true, decide_eq_true_eq]
       exact ⟨⟨⟨⟨⟨⟨⟨by omega, by omega, trivial, by omega⟩, by assumption⟩, by assumption⟩, by omega⟩, by assumption⟩, by assumption⟩, by omega⟩)
  )
theorem Head4_any (p : Pk) (os xs : List Int) (w : World) (h : Pin w p os xs) (hT : Tab w) (hl : os.length ≤ 140737488355328 ∧ xs.length ≤ 140737488355328) : Calls Tryd.prog 22 #[.agg (pkC p)] w (APost w (.int .i64 (if right4 p os xs.length = true then ((20 + os.length : Nat) : Int) else 0))) := by
  have L1 := h.pk.src.len
  have L2 := h.pk.dst.len
  have RG := hid (fun W (hW : Below w.heap.size w W) => right4_any p os xs W (h.below hW) (hT.below hW) hl)
  obtain ⟨oa, oc, eo, hoc, hom, _⟩ := h.oR.open
  unfold maxLen at hom
  have hl1 := hl.1
  have s1 : IntKind.i64.wrap (20 + (os.length : Int)) = ((20 + os.length : Nat) : Int) := by rw [IntWalk.i64_in _ (by omega)]; omega
  have S := hid (Sp.in1 w (pkC p) 30)
  clear h hT hl
  cases hr : right4 p os xs.length
  all_goals (
  rw [hr] at RG
  generalize right4 p os xs.length = r at *
  have P := hid (fun en w' v (h1 : en = .returned v) (h2 : Sp w w' []) => show APost w v en w' from ⟨h1, h2.bel⟩)
  clear hr
  go_enter Tryd.func22, Tryd.ntmps22
  go_upto_region 1 with fail
  generalize w.alloc _ = w' at *
  generalize hb0 : w.heap.size = b at *
  go_wp2_with (first
    | go_skip
    | ((with_reducible show wpList _ _ _ _ _ _); first | (((with_reducible show wpList _ _ _ (⟨_, .load 30 _, _, _, _, _⟩ :: _) _ _); first | (refine wpList_getW (by rfl) _ rfl S.out _ rfl 0 _ rfl (by first | rfl | assumption) (by first | rfl | assumption) ?_) | (refine wpList_getW (by rfl) _ rfl S.out _ rfl 1 _ rfl (by first | rfl | assumption) (by first | rfl | assumption) ?_) | (refine wpList_getW (by rfl) _ rfl S.out _ rfl 2 _ rfl (by first | rfl | assumption) (by first | rfl | assumption) ?_) | (refine wpList_getW (by rfl) _ rfl S.out _ rfl 3 _ rfl (by first | rfl | assumption) (by first | rfl | assumption) ?_) | (refine wpList_getW (by rfl) _ rfl S.out _ rfl 4 _ rfl (by first | rfl | assumption) (by first | rfl | assumption) ?_) | (refine wpList_getW (by rfl) _ rfl S.out _ rfl 5 _ rfl (by first | rfl | assumption) (by first | rfl | assumption) ?_))) | ((with_reducible show wpList _ _ _ (⟨_, .load _ _, _, _, _, _⟩ :: _) _ _); refine wpList_get_pk (by rfl) _ _ rfl S.out _ _ rfl 0 _ rfl _ (show pkGet p 44 = some (.slice oa os.length oc) from by rw [← eo]; rfl) (by rfl) L1 L2 ?_))
    | (go_at_call 20; refine (RG.out _ (by have := S.out.bel; rwa [hb0] at this)).mono ?_; rintro en w' ⟨rfl, hb⟩; replace S := hid (S.out.keep hb); clear hb))
  go_ret
  exact P.out _ _ _ (by first | rfl | (simp; done)) S.out.nil
  )
end Go.Proofs.YtaecfcaeopmiaaaDoor
