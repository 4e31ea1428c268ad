/-
  The statement Ip4ParsesCardSaid, proved: for every input, where the package's table of shapes is laid as the program's text lays it, the call returns true, and what came in reads behind it as it read before. (The frame of this text began as the kit's toy of a law over a laid table.)
-/
import Derived.Test.YtaecfcaeopmiaaaDoorF05
import Derived.Test.YtaecfcaeopmiaaaDoorLaw5P
namespace Go.Proofs.YtaecfcaeopmiaaaDoor
open Go.ChangeShapes Go.WideShapes Go.ChangeAt Go.RowKit Go.Deep

def ip4ParsesArgs : Array Value := #[.slice none 0 0]
set_option maxRecDepth 100000 in
theorem ip4Parses_reads (os : Os) {H : Type} (enc : TypeId × Value → H) : ∃ places, DataW.whole enc Tryd.prog ((laidWorld os).forCall (fun _ _ => 0) ⟨#[], ip4ParsesArgs, []⟩).memory Tryd.f3.params.toList Rows.ip4ParsesSpec.vars false ip4ParsesArgs.toList 8 = some ([.nil], [], places) :=
  ⟨[], by kernel_rfl⟩
theorem ip4Parses_met (os : Os) : laidMet Tryd.prog Rows.ip4ParsesRow.laid ((laidWorld os).forCall (fun _ _ => 0) ⟨#[], ip4ParsesArgs, []⟩).memory :=
  laidMet_of_run' 8 (by kernel_rfl) (by kernel_rfl)
set_option maxRecDepth 100000 in
theorem ip4Parses_lifted (os : Os) (started : os.Started) (H : Type) (enc : TypeId × Value → H) (F : Stop.Interp) :
    ReturnsInHanded {} Tryd.checked os 3 .any ((OpenSpec.ofChange Rows.ip4ParsesSpec).preRow enc Tryd.prog Tryd.f3 Rows.ip4ParsesRow.domain false Rows.ip4ParsesRow.laid) (((OpenSpec.ofChange Rows.ip4ParsesSpec).at F).post enc Tryd.prog Tryd.f3 false true false false) := by
  obtain ⟨places, hx⟩ := ip4Parses_reads os enc
  refine returnsInHanded_of_row (C := Tryd.checked) (s := (OpenSpec.ofChange Rows.ip4ParsesSpec)) own_knob started (by kernel_rfl) Tryd.func3
    (witness_row_at (enc := enc) (C := Tryd.checked) false (laidWorld os) ip4ParsesArgs rfl (by kernel_rfl) (by kernel_rfl) (by kernel_rfl)
      (OpenSpec.preRow_of_cond 8 hx (by kernel_rfl) (fun k hk => by cases hk) (by kernel_rfl) (ip4Parses_met os))) ?_
  intro W base args ds gs before hval0 hW hcnd hcond hsz0 hL _ _
  have hsz : (DataW.weightsEach Tryd.prog (Tryd.f3.params.toList ++ (OpenSpec.ofChange Rows.ip4ParsesSpec).bare.plain.varTypes Tryd.prog) (ds ++ gs)).all (· ≤ reachBytes) = true := hsz0
  clear hsz0
  have hval : ∀ (j : Nat) t v, Tryd.f3.params[j]? = some t → args[j]? = some v → Value.okWide Tryd.prog W .any base t v := hval0
  have hW' := hW
  obtain ⟨p, q, hA0, hV, rfl, hfz, hnd⟩ := hW
  have hA : DataW.TrodAll enc Tryd.prog W 0 (fun _ => true) true Tryd.f3.params.toList args.toList ds p := hA0
  rw [Tryd.params3] at hA hval hsz
  obtain ⟨v0, d0, rfl, rfl, h0⟩ := trodAll_one hA
  obtain ⟨p0, hp0⟩ : ∃ p0, p0 = p := ⟨_, rfl⟩
  rw [← hp0] at h0
  obtain ⟨rfl, rfl⟩ := trodVars_none hV
  have hle : ∀ (j : Nat) (t : TypeId) (d : DataW H), [22][j]? = some t → [d0][j]? = some d → ∀ n ∈ d.weights Tryd.prog t, n ≤ reachBytes := fun j t d ht hd n hn => of_decide_eq_true (List.all_eq_true.1 hsz n (DataW.weights_mem_each ht hd n hn))
  have k0 := h0
  have lt0 : ∀ x ∈ p0, x.block < W.heap.size := by obtain ⟨m, hm⟩ := k0; exact DataW.trod_lt m _ _ _ hm
  obtain ⟨a0, n0, c0, rfl⟩ := okWide_slice Tryd.underlying22 (hval 0 22 v0 rfl rfl)
  obtain ⟨l0, R0, B0⟩ := sized_bytesS h0 ⟨_, _, _, rfl⟩ (fun _ => rfl) (hle 0 _ _ rfl rfl)
  clear hA0 hval0
  refine (ip4Parses_any _ l0 W (tab_of hL) R0 B0).mono fun e W' ⟨he, bel⟩ => ?_
  subst he
  exact ⟨_, rfl, _, _, _, [], _, [], hW', trodAll_mk1 (shut_bool Tryd.underlying4 _), (by subst hp0; exact trodAll_mk1 (Below.trod laid_out (by kernel_rfl) (of_decide_eq_true (by kernel_rfl)) k0 bel lt0)), rfl, bel.frame _, fun h => by cases h⟩
theorem ip4Parses_said : Rows.Ip4ParsesSaid :=
  OpenClaim.holds_of_cond 3 Tryd.f3 rfl rfl rfl rfl rfl rfl rfl ⟨rfl, rfl, rfl, rfl, rfl⟩ rfl rfl rfl rfl rfl (by kernel_rfl) Tryd.func3 (by kernel_rfl)
    (of_decide_eq_true (by kernel_rfl)) (by unfold Func.isWrapper; first | (rw [if_pos (by decide +kernel)]; kernel_rfl) | (rw [if_neg (by decide +kernel)]; exact ⟨rfl, rfl⟩))
    (fun os started H enc _ F => by rw [OpenClaim.pre_eq_preRow]; exact ip4Parses_lifted os started H enc F)
theorem ip4Parses_plain (f : FuncId) (fn : Func) (hf : Tryd.pinned.checked.prog.funcNamed "mosaic/mosaiclaw05.Ip4Parses" = some f) (hfn : Tryd.pinned.checked.prog.funcs[f]? = some fn) :
    false = Tryd.pinned.checked.prog.looks [] ∧ ∀ (j : Nat) t, fn.params[j]? = some t → Tryd.pinned.checked.prog.wantsStandIn t = false := by
  obtain rfl : f = 3 := Option.some.inj ((show Tryd.prog.funcNamed "mosaic/mosaiclaw05.Ip4Parses" = some 3 by kernel_rfl).symm.trans hf) |>.symm
  obtain rfl : fn = Tryd.f3 := (Option.some.inj (Tryd.func3.symm.trans hfn)).symm
  refine ⟨by kernel_rfl, fun j t ht => ?_⟩
  rw [Tryd.params3] at ht
  have hm := Array.mem_of_getElem? ht
  simp at hm
  obtain rfl : t = 22 := by omega
  exact (show Tryd.prog.wantsStandIn 22 = false by kernel_rfl)
theorem ip4Parses_holds : Rows.Ip4ParsesCardSaid :=
  Claim7.holds_tied_plain_at .later [] _ _ _ _ ip4Parses_said (fun _ h => by cases h) (by kernel_rfl) (fun _ h => by cases h) ip4Parses_row_tie rfl ⟨rfl, rfl⟩ (by kernel_rfl) rfl ip4Parses_plain (by kernel_rfl)
#print axioms ip4Parses_holds
end Go.Proofs.YtaecfcaeopmiaaaDoor
