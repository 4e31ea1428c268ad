/-
  mosaicref06: six, between, Right, Head.
-/
import Derived.Test.YthbdnmmmibdgpaaRefV
import Derived.Test.YthbdnmmmibdgpaaIp6B
namespace Go.Proofs.Ythbdnmmmibdgpaa
open Go.RowKit

theorem rSix_any (V : Int) (bs : List Int) (w : World) (h : IsA V bs) : Calls Try.prog 33 #[.agg (addrC V bs)] w (APost w (.bool (decide (V = 6)))) := by
  have H := hid h
  have A := hid (AddrAt.alloc w V bs)
  have c0 := A.out.v
  have BB := hid (bel_alloc w (.cells (addrC V bs) 24))
  have VA := hid (fun W => rValid_any V bs W h)
  have VV := hid (show V = 6 → validA V bs = true from fun hv => by subst hv; rfl)
  generalize validA V bs = v at *
  clear h
  unfold addrV at *
  go_enter Try.func33, Try.ntmps33
  go_upto_region 1 with fail
  generalize w.alloc (.cells (addrC V bs) 24) = w1 at *
  go_wp2_with (first
    | go_skip
    | ((with_reducible show wpList _ _ _ _ _ _); first | ((with_reducible show wpList _ _ _ (⟨_, .binOp _ _ _ _ _, _, _, _, _⟩ :: _) _ _); refine wpList_cmp (by rfl) _ (by rfl) _ _ _ _ rfl _ (by go_simp; exact rfl) ?_ ?_ <;> (intro hc; (try simp only [decide_eq_true_eq, decide_eq_false_iff_not, Int.not_lt] at hc); go_prune)) | (refine wpList_load_addr (by rfl) _ rfl _ _ _ rfl A.out H.out.len ?_))
    | (go_at_call 46; refine (VA.out _).mono ?_; rintro en w' ⟨rfl, hb⟩; have c0 := (AddrAt.v (blk_bel A.out hb) : w'.cell? _ = some (.int .i64 V)); replace BB := hid (BB.out.trans (hb.mono BB.out.size)); clear hb))
  all_goals
    go_ret
    clear VA
    refine ⟨?_, BB.out⟩
    have hv := VV.out
    show Ending.returned (.bool _) = _
    simp_all
theorem rBetween_any (n a b : Int) (w : World) : Calls Try.prog 34 #[.int .i64 n, .int .i64 a, .int .i64 b] w (APost w (.bool (decide (a ≤ n) && decide (n ≤ b)))) := by
  go_enter Try.func34, Try.ntmps34
  go_wp2_with (first | go_skip | ((with_reducible show wpList _ _ _ _ _ _); (with_reducible show wpList _ _ _ (⟨_, .binOp _ _ _ _ _, _, _, _, _⟩ :: _) _ _); refine wpList_cmp (by rfl) _ (by rfl) _ _ _ _ rfl _ (by go_simp; exact rfl) ?_ ?_ <;> (intro hc; (try simp only [decide_eq_true_eq, decide_eq_false_iff_not] at hc); go_prune)))
  all_goals
    go_ret
    refine ⟨?_, Below.refl _ _⟩
    show Ending.returned (.bool _) = _
    first
    | (simp_all; done)
    | (congr 2; simp; omega)
theorem rBetween_split (n a b : Int) (w : World) {K : Ending → World → Prop} (h1 : a ≤ n → n ≤ b → ∀ w', Below w.heap.size w w' → K (.returned (.bool true)) w') (h2 : n < a ∨ b < n → ∀ w', Below w.heap.size w w' → K (.returned (.bool false)) w') :
    Calls Try.prog 34 #[.int .i64 n, .int .i64 a, .int .i64 b] w K :=
  (rBetween_any n a b w).mono fun en w' ⟨he, hb⟩ => by
    subst he
    by_cases hc : a ≤ n ∧ n ≤ b
    · have e : (decide (a ≤ n) && decide (n ≤ b)) = true := by simp [hc.1, hc.2]
      rw [e]; exact h1 hc.1 hc.2 w' hb
    · have e : (decide (a ≤ n) && decide (n ≤ b)) = false := by simp; omega
      rw [e]; exact h2 (by omega) w' hb
set_option maxHeartbeats 4000000 in
set_option maxRecDepth 20000 in
theorem rRight6_any (p : Pk) (os xs : List Int) (w : World) (h : Pin w p os xs) (hl : xs.length ≤ 140737488355328) : Calls Try.prog 16 #[.agg (pkC p)] w (APost w (.bool (right6 p os.length xs.length))) := by
  obtain ⟨hp, ho, hx⟩ := h
  have H1 := hid hp.src
  have H2 := hid hp.dst
  have L1 := hp.src.len
  have L2 := hp.dst.len
  have ID0 := hp.id0
  have ID1 := hp.id1
  obtain ⟨oa, oc, eo, hoc, hom, _⟩ := ho.open
  obtain ⟨xa, xc, ex, hxc, hxm, _⟩ := hx.open
  unfold maxLen at hom hxm
  have RE : Hid (right6 p os.length xs.length = (six6 p os.length && if p.Frag = true then decide (0 ≤ p.Off) && decide (p.Off % 8 = 0) && decide (xs.length ≤ 65527) && decide (p.Off + xs.length ≤ 65535) && (if xs.length = 0 then decide (p.Off = 0) && !p.More else !p.More || decide (xs.length % 8 = 0))
    else decide (p.ID = 0) && decide (p.Off = 0) && !p.More && decide (xs.length ≤ 65535))) := hid rfl
  have P := hid (fun en w' (h1 : en = .returned (.bool (right6 p os.length xs.length))) (h2 : Sp w w' []) => show APost w (.bool (right6 p os.length xs.length)) en w' from ⟨h1, h2.bel⟩)
  generalize right6 p os.length xs.length = r at *
  generalize os.length = on at *
  generalize xs.length = n at *
  have S : Hid (Sp w (w.alloc (.cells (pkC p) 28)) [.blk w.heap.size (pkC p) 28]) := hid (Sp.in1 ..)
  have hadd : 0 ≤ p.Off → p.Off ≤ 65535 → IntKind.i64.wrap (p.Off + (n : Int)) = p.Off + (n : Int) := fun h1 h2 => IntWalk.i64_in _ (by omega)
  have hadd2 : IntKind.i64.wrap ((n : Int) + 8) = (n : Int) + 8 := IntWalk.i64_in _ (by omega)
  have hln : (n : Int) ≤ 140737488355328 := by omega
  clear ho hx hp hxm hxc hom hoc hl
  go_enter Try.func16, Try.ntmps16
  go_upto_region 1 with fail
  generalize w.alloc (.cells (pkC p) 28) = w' at *
  generalize w.heap.size = b at *
  go_wp2_with (first
    | go_skip
    | ((with_reducible show wpList _ _ _ _ _ _); first | ((with_reducible show wpList _ _ _ (⟨_, .binOp _ _ _ _ _, _, _, _, _⟩ :: _) _ _); refine wpList_cmp (by rfl) _ (by rfl) _ _ _ _ rfl _ (by go_simp; exact rfl) ?_ ?_ <;> (intro hc; (try simp only [decide_eq_true_eq, decide_eq_false_iff_not, Int.not_lt] at hc); (try (simp at hc; done)); (try (exfalso; omega)))) | ((with_reducible show wpList _ _ _ (⟨_, .load _ _, _, _, _, _⟩ :: _) _ _); first | (refine wpList_load_src (by rfl) _ rfl _ _ rfl (S.out.pk 0 rfl) (by first | rfl | assumption) ?_) | (refine wpList_load_dst (by rfl) _ rfl _ _ rfl (S.out.pk 0 rfl) (by first | rfl | assumption) (by first | rfl | assumption) ?_) | (refine wpList_load_src (by rfl) _ rfl _ _ rfl (S.out.pk 1 rfl) (by first | rfl | assumption) ?_) | (refine wpList_load_dst (by rfl) _ rfl _ _ rfl (S.out.pk 1 rfl) (by first | rfl | assumption) (by first | rfl | assumption) ?_) | (refine wpList_load_src (by rfl) _ rfl _ _ rfl (S.out.pk 2 rfl) (by first | rfl | assumption) ?_) | (refine wpList_load_dst (by rfl) _ rfl _ _ rfl (S.out.pk 2 rfl) (by first | rfl | assumption) (by first | rfl | assumption) ?_)) | ((with_reducible show wpList _ _ _ (⟨_, .load _ _, _, _, _, _⟩ :: _) _ _); first | (first | (refine wpList_getW (by rfl) _ rfl S.out _ rfl 0 _ rfl (by first | rfl | assumption) (by first | rfl | assumption) ?_) | (refine wpList_getW (by rfl) _ rfl S.out _ rfl 1 _ rfl (by first | rfl | assumption) (by first | rfl | assumption) ?_) | (refine wpList_getW (by rfl) _ rfl S.out _ rfl 2 _ rfl (by first | rfl | assumption) (by first | rfl | assumption) ?_) | (refine wpList_getW (by rfl) _ rfl S.out _ rfl 3 _ rfl (by first | rfl | assumption) (by first | rfl | assumption) ?_) | (refine wpList_getW (by rfl) _ rfl S.out _ rfl 4 _ rfl (by first | rfl | assumption) (by first | rfl | assumption) ?_) | (refine wpList_getW (by rfl) _ rfl S.out _ rfl 5 _ rfl (by first | rfl | assumption) (by first | rfl | assumption) ?_)) | (first | (refine wpList_get_pk (by rfl) _ _ rfl S.out _ _ rfl 0 _ rfl _ rfl (by rfl) (by first | rfl | assumption) (by first | rfl | assumption) ?_) | (refine wpList_get_pk (by rfl) _ _ rfl S.out _ _ rfl 1 _ rfl _ rfl (by rfl) (by first | rfl | assumption) (by first | rfl | assumption) ?_) | (refine wpList_get_pk (by rfl) _ _ rfl S.out _ _ rfl 2 _ rfl _ rfl (by rfl) (by first | rfl | assumption) (by first | rfl | assumption) ?_) | (refine wpList_get_pk (by rfl) _ _ rfl S.out _ _ rfl 3 _ rfl _ rfl (by rfl) (by first | rfl | assumption) (by first | rfl | assumption) ?_) | (refine wpList_get_pk (by rfl) _ _ rfl S.out _ _ rfl 4 _ rfl _ rfl (by rfl) (by first | rfl | assumption) (by first | rfl | assumption) ?_) | (refine wpList_get_pk (by rfl) _ _ rfl S.out _ _ rfl 5 _ rfl _ rfl (by rfl) (by first | rfl | assumption) (by first | rfl | assumption) ?_))))
    | (go_at_call 33; refine (rSix_any _ _ _ (by first | exact H1.out | exact H2.out)).mono ?_; rintro en w' ⟨rfl, hb⟩; replace S := hid (S.out.keep hb); clear hb)
    | (go_at_call 34; refine rBetween_split _ _ _ _ ?_ ?_ <;> (first | (intro ha1 ha2 w' hb; replace S := hid (S.out.keep hb); clear hb) | (intro ha1 w' hb; replace S := hid (S.out.keep hb); clear hb))))
  all_goals
    go_ret
    refine P.out _ _ ?_ S.out.nil
    have hr := RE.out
    clear RE S P hadd hadd2 hln
    show Ending.returned (.bool _) = _
    rw [hr]
    unfold six6
    congr 2
    clear hr
  all_goals first
    | (simp_all; done)
    | (simp_all; omega)
    | (rcases ha1 with ha1 | ha1 <;> cases hf : p.Frag <;> cases hm : p.More <;> (simp_all; try omega))
    | (cases hf : p.Frag <;> cases hm : p.More <;> (simp_all; try omega))
    | skip
  all_goals trace_state
  all_goals sorry
end Go.Proofs.Ythbdnmmmibdgpaa
