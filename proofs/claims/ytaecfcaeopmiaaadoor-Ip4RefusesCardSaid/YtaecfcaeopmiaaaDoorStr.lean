/-
  Bytes as a text; two of them compared.
-/
import Derived.Test.YtaecfcaeopmiaaaDoorEqA
import Derived.Laws.BytesArg

namespace Go.Proofs.YtaecfcaeopmiaaaDoor
open Go.RowKit

/-- bytes that a slice reads as, made a text -/
theorem rb_text {w : World} {v : Value} {l : List Int} (h : Rb w v l) {P : Program} (src dst e : TypeId) (hs : P.underlying src = some (.slice e)) (he : P.underlying e = some (.int .u8)) (hd : P.underlying dst = some .string) : (convert src dst v).run P w = .ok (.string (strOfNums l)) w := by
  obtain ⟨a, cap, rfl, hc, hm, hz⟩ := h.open
  rcases hz with h0 | ⟨b, off, rfl, hcell⟩
  · have hl : l = [] := List.length_eq_zero_iff.1 h0
    subst hl
    cases a with
    | none => exact run_convert_bytes_nil w src e hs he _ _ dst hd
    | some x =>
      rw [run_convert_bytes_string w src dst e _ _ _ hs he hd]
      simp [Conv.bytesToString, loadCells, strOfNums]
      try rfl
  · exact run_convert_bytes_arg w src e hs he b off _ cap l rfl (fun i hi => by simpa [gt] using hcell i hi) dst hd
theorem str_inj {l m : List Int} (hl : Byt l) (hm : Byt m) : ((strOfNums l).toList == (strOfNums m).toList) = decide (l = m) := by
  have e : ∀ k : List Int, (strOfNums k).toList = k.map fun n => UInt8.ofNat n.toNat := fun k => by rw [ByteArray.toList_eq]; exact strOfNums_data k
  rw [e, e, Bool.eq_iff_iff]
  simp only [beq_iff_eq, decide_eq_true_eq]
  constructor
  · intro h
    have h2 := congrArg (List.map fun u : UInt8 => (u.toNat : Int)) h
    simp only [List.map_map] at h2
    have back : ∀ k : List Int, Byt k → k.map ((fun u : UInt8 => (u.toNat : Int)) ∘ fun n => UInt8.ofNat n.toNat) = k := fun k hk => by
      conv => rhs; rw [← List.map_id k]
      apply List.map_congr_left
      intro x hx
      have := hk x hx
      simp only [Function.comp_apply, UInt8.toNat_ofNat', id_eq]
      omega
    rw [back l hl, back m hm] at h2
    exact h2
  · intro h; rw [h]
def SameP (w : World) (b : Bool) (en : Ending) (w' : World) : Prop := en = .returned (.bool b) ∧ w' = w
end Go.Proofs.YtaecfcaeopmiaaaDoor
