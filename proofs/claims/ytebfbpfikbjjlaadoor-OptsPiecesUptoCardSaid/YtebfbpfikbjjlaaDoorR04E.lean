/-
  The statement OptsPiecesUptoCardSaid, proved: for every two slices of bytes, where the package's table of shapes is laid as the program's text lays it, for inputs of bulk at most 1048576, the call returns true, and what came in reads behind it as it read before. (The frame of this text began as the kit's toy of a law over a laid table.)
-/
import Derived.Test.YtebfbpfikbjjlaaDoorG04
import Derived.Test.YtebfbpfikbjjlaaDoorL04E
namespace Go.Proofs.YtebfbpfikbjjlaaDoor
open Go.ChangeShapes Go.WideShapes Go.ChangeAt Go.RowKit Go.Deep

theorem optsPieces_reads (os : Os) {H : Type} (enc : TypeId × Value → H) : ∃ places, DataW.whole enc Tryd.prog ((laidWorld os).forCall (fun _ _ => 0) ⟨#[], #[.slice none 0 0, .slice none 0 0], []⟩).memory Tryd.f7.params.toList Rows.optsPiecesSpec.vars false #[Value.slice none 0 0, Value.slice none 0 0].toList 8 = some ([.nil, .nil], [], places) :=
  ⟨[], by kernel_rfl⟩
theorem optsPieces_met (os : Os) : laidMet Tryd.prog Rows.optsPiecesUptoRow.laid ((laidWorld os).forCall (fun _ _ => 0) ⟨#[], #[.slice none 0 0, .slice none 0 0], []⟩).memory :=
  laidMet_of_run' 8 (by kernel_rfl) (by kernel_rfl)
set_option maxRecDepth 100000 in
theorem optsPieces_lifted (os : Os) (started : os.Started) (H : Type) (enc : TypeId × Value → H) (F : Stop.Interp) :
    ReturnsInHanded {} Tryd.checked os 7 .any ((Rows.OpenSpec.upto Rows.optsPiecesSpec).preRow enc Tryd.prog Tryd.f7 Rows.optsPiecesUptoRow.domain false Rows.optsPiecesUptoRow.laid) (((Rows.OpenSpec.upto Rows.optsPiecesSpec).at F).post enc Tryd.prog Tryd.f7 false true false false) := by
  obtain ⟨places, hx⟩ := optsPieces_reads os enc
  refine returnsInHanded_of_row (C := Tryd.checked) (s := (Rows.OpenSpec.upto Rows.optsPiecesSpec)) own_knob started (by kernel_rfl) Tryd.func7
    (witness_row_at (enc := enc) (C := Tryd.checked) false (laidWorld os) #[.slice none 0 0, .slice none 0 0] rfl (by kernel_rfl) (by kernel_rfl) (by kernel_rfl)
      (OpenSpec.preRow_of_cond 8 hx (by kernel_rfl) (fun k hk => by cases hk; kernel_rfl) (by kernel_rfl) (optsPieces_met os))) ?_
  intro W base args ds gs before hval0 hW _ hcond _ hL _ _
  have hval : ∀ (j : Nat) t v, Tryd.f7.params[j]? = some t → args[j]? = some v → Value.okWide Tryd.prog W .any base t v := hval0
  have hW' := hW
  obtain ⟨p, q, hA0, hV, rfl, hfz, hnd⟩ := hW
  have hA : DataW.TrodAll enc Tryd.prog W 0 (fun _ => true) true Tryd.f7.params.toList args.toList ds p := hA0
  rw [Tryd.params7] at hA hval
  obtain ⟨v0, v1, d0, d1, p0, p1, rfl, rfl, rfl, h0, h1⟩ := trodAll_two hA
  obtain ⟨rfl, rfl⟩ := trodVars_none hV
  have hbulk : Rows.uptoBulkAll ([d0, d1] ++ ([] : List (DataW H))) ≤ 1048576 := of_decide_eq_true (hcond _ rfl)
  simp only [List.append_nil, Rows.uptoBulkAll] at hbulk
  obtain ⟨a0, len0, cap0, rfl⟩ := okWide_slice Tryd.underlying22 (hval 0 22 v0 rfl rfl)
  have k0 := h0
  have lt0 : ∀ x ∈ p0, x.block < W.heap.size := by obtain ⟨m, hm⟩ := k0; exact DataW.trod_lt m _ _ _ hm
  obtain ⟨f0, hf0⟩ := h0
  obtain ⟨l0, R0, L0⟩ := open_bytes_upto (v := .slice a0 len0 cap0) hf0 (fun _ => rfl) (show Rows.uptoBulk d0 ≤ 1048576 by omega)
  obtain ⟨a1, len1, cap1, rfl⟩ := okWide_slice Tryd.underlying22 (hval 1 22 v1 rfl rfl)
  have k1 := h1
  have lt1 : ∀ x ∈ p1, x.block < W.heap.size := by obtain ⟨m, hm⟩ := k1; exact DataW.trod_lt m _ _ _ hm
  obtain ⟨f1, hf1⟩ := h1
  obtain ⟨l1, R1, L1⟩ := open_bytes_upto (v := .slice a1 len1 cap1) hf1 (fun _ => rfl) (show Rows.uptoBulk d1 ≤ 1048576 by omega)
  clear hA0 hval0
  refine (optsPieces_any _ _ l0 l1 W R0 R1 (tab_of hL) L0 L1).mono fun e W' ⟨he, bel⟩ => ?_
  subst he
  exact ⟨_, rfl, _, _, _, [], _, [], hW', trodAll_mk1 (shut_bool Tryd.underlying4 _), (trodAll_cons_mk (Below.trod laid_out (by kernel_rfl) (of_decide_eq_true (by kernel_rfl)) k0 bel lt0) (trodAll_cons_mk (Below.trod laid_out (by kernel_rfl) (of_decide_eq_true (by kernel_rfl)) k1 bel lt1) (trodAll_mk0))), rfl, bel.frame _, fun h => by cases h⟩
theorem optsPieces_said : Rows.OptsPiecesUptoSaid :=
  OpenClaim.holds_of_cond 7 Tryd.f7 rfl rfl rfl rfl rfl rfl rfl ⟨rfl, rfl, rfl, rfl, rfl⟩ rfl rfl rfl rfl rfl (by kernel_rfl) Tryd.func7 (by kernel_rfl)
    (of_decide_eq_true (by kernel_rfl)) (by unfold Func.isWrapper; first | (rw [if_pos (by decide +kernel)]; kernel_rfl) | (rw [if_neg (by decide +kernel)]; exact ⟨rfl, rfl⟩))
    (fun os started H enc _ F => by rw [OpenClaim.pre_eq_preRow]; exact optsPieces_lifted os started H enc F)
theorem optsPieces_plain (f : FuncId) (fn : Func) (hf : Tryd.pinned.checked.prog.funcNamed "mosaic/mosaiclaw04.OptsPieces" = some f) (hfn : Tryd.pinned.checked.prog.funcs[f]? = some fn) :
    false = Tryd.pinned.checked.prog.looks [] ∧ ∀ (j : Nat) t, fn.params[j]? = some t → Tryd.pinned.checked.prog.wantsStandIn t = false := by
  obtain rfl : f = 7 := Option.some.inj ((show Tryd.prog.funcNamed "mosaic/mosaiclaw04.OptsPieces" = some 7 by kernel_rfl).symm.trans hf) |>.symm
  obtain rfl : fn = Tryd.f7 := (Option.some.inj (Tryd.func7.symm.trans hfn)).symm
  refine ⟨by kernel_rfl, fun j t ht => ?_⟩
  rw [Tryd.params7] at ht
  have hm := Array.mem_of_getElem? ht
  simp at hm
  obtain rfl : t = 22 := by omega
  exact (show Tryd.prog.wantsStandIn 22 = false by kernel_rfl)
theorem optsPieces_holds : Rows.OptsPiecesUptoCardSaid :=
  Claim7.holds_tied_plain_at .later [] _ _ _ _ optsPieces_said (fun _ h => by cases h) (by kernel_rfl) (fun _ h => by cases h) optsPiecesUpto_row_tie rfl ⟨rfl, rfl⟩ (by kernel_rfl) rfl optsPieces_plain (by kernel_rfl)
#print axioms optsPieces_holds
end Go.Proofs.YtebfbpfikbjjlaaDoor
