/-
  Options, on plain lists: what outright statements of chapter 4 say.
-/
import Derived.Test.YtebfbpfikbjjlaaDoorP04
namespace Go.Proofs.YtebfbpfikbjjlaaDoor

/-- an option that may be read -/
def okO (o : Opt) : Prop := 1 ≤ o.1 ∧ o.1 ≤ 255 ∧ Byt o.2 ∧ o.2.length + 2 ≤ 255 ∧ (o.1 = 1 → o.2 = [])
theorem parse_ok {l : List Int} (hl : Byt l) {os : List Opt} (h : parseL l = some os) : ∀ o ∈ os, okO o := parse_byt hl h
theorem parse_lay' {os : List Opt} (h : ∀ o ∈ os, okO o) (r : List Int) : parseL (lay os ++ r) = (parseL r).map (os ++ ·) := by
  induction os with
  | nil => simp [lay]
  | cons o os ih =>
    obtain ⟨h1, _, _, _, h5⟩ := h o (by simp)
    have ih' := ih fun o' ho' => h o' (by simp [ho'])
    obtain ⟨k, d⟩ := o
    simp only at h1 h5
    simp only [lay, layO]
    split
    · rename_i e
      subst e
      rw [h5 rfl, show [1] ++ lay os ++ r = 1 :: (lay os ++ r) by simp, parse_cons, if_neg (by decide), if_pos rfl, ih']
      cases parseL r <;> simp
    · rename_i e
      rw [show (k :: ((d.length : Int) + 2) :: d) ++ lay os ++ r = k :: ((d.length : Int) + 2) :: (d ++ (lay os ++ r)) by simp, parse_cons, if_neg (by omega), if_neg e]
      simp only
      rw [if_neg (by simp; omega), show ((d.length : Int) + 2).toNat - 2 = d.length by omega, List.drop_left, List.take_left, ih']
      cases parseL r <;> simp
theorem zeros_eq {l : List Int} (h : zerosB l = true) : l = List.replicate l.length 0 := by
  rw [List.eq_replicate_iff]
  exact ⟨rfl, fun x hx => by simpa using List.all_eq_true.1 h x hx⟩
/-- what may be read is its options laid, and noughts -/
theorem parse_form {l : List Int} (hl : Byt l) : ∀ {os : List Opt}, parseL l = some os → ∃ j, l = lay os ++ List.replicate j 0 := by
  induction h : l.length using Nat.strongRecOn generalizing l with
  | ind n ih =>
    intro os hos
    cases l with
    | nil => rw [parse_nil] at hos; obtain rfl := Option.some.inj hos; exact ⟨0, rfl⟩
    | cons k r =>
      rw [parse_cons] at hos
      simp only [List.length_cons] at h
      have hr : Byt r := fun x hx => hl x (by simp [hx])
      split at hos
      · rename_i h0
        split at hos
        · rename_i hz
          obtain rfl := Option.some.inj hos
          refine ⟨r.length + 1, ?_⟩
          rw [List.replicate_succ, ← zeros_eq hz, h0]; rfl
        · cases hos
      · split at hos
        · rename_i h1
          obtain ⟨os', e1, e2⟩ := Option.map_eq_some_iff.1 hos
          subst e2
          obtain ⟨j, hj⟩ := ih r.length (by omega) hr rfl e1
          exact ⟨j, by rw [h1, hj]; simp [lay, layO]⟩
        · rename_i h0 h1
          cases r with
          | nil => cases hos
          | cons m r' =>
            simp only at hos
            split at hos
            · cases hos
            · rename_i hm
              obtain ⟨os', e1, e2⟩ := Option.map_eq_some_iff.1 hos
              subst e2
              simp only [List.length_cons] at h
              have hr' : Byt r' := fun x hx => hr x (by simp [hx])
              obtain ⟨j, hj⟩ := ih (r'.drop (m.toNat - 2)).length (by simp; omega) (hr'.drop _) rfl e1
              refine ⟨j, ?_⟩
              have ht : (r'.take (m.toNat - 2)).length = m.toNat - 2 := by simp; omega
              have hd : r' = r'.take (m.toNat - 2) ++ (lay os' ++ List.replicate j 0) := by rw [← hj, List.take_append_drop]
              have hmm : (((r'.take (m.toNat - 2)).length : Nat) : Int) + 2 = m := by rw [ht]; omega
              simp only [lay, layO]
              rw [if_neg h1, hmm]
              simp only [List.cons_append, List.append_assoc]
              rw [← hd]
theorem form_len {l : List Int} {os : List Opt} {j : Nat} (h : l = lay os ++ List.replicate j 0) : l.length = (lay os).length + j := by rw [h]; simp
theorem good_of {os : List Opt} (h : ∀ o ∈ os, okO o) (hl : (lay os).length ≤ 40) : ∀ o ∈ os, badO o = false := by
  intro o ho
  obtain ⟨h1, h2, h3, h4, h5⟩ := h o ho
  have hle : (layO o).length ≤ (lay os).length := by
    obtain ⟨a, b, rfl⟩ := List.append_of_mem ho
    rw [lay_append]
    simp only [lay, List.length_append]
    omega
  rw [layO_len] at hle
  simp only [badO, Bool.or_eq_false_iff, decide_eq_false_iff_not, Bool.and_eq_false_iff]
  by_cases e : o.1 = 1
  · have := h5 e
    rw [this]
    simp
    omega
  · rw [if_neg e] at hle
    exact ⟨⟨⟨by omega, by omega⟩, by omega⟩, Or.inl e⟩
theorem ok_of {os : List Opt} (h : ∀ o ∈ os, badO o = false) (hb : ∀ o ∈ os, Byt o.2) : ∀ o ∈ os, okO o := by
  intro o ho
  have := h o ho
  simp only [badO, Bool.or_eq_false_iff, decide_eq_false_iff_not, Bool.and_eq_false_iff] at this
  refine ⟨by omega, by omega, hb o ho, by omega, fun e => List.length_eq_zero_iff.1 ?_⟩
  rcases this.2 with h | h
  · exact absurd e h
  · omega
theorem pad_le {l : List Int} {n : Nat} (h : l.length ≤ n) (hn : n % 4 = 0) : (pad l).length ≤ n := by rw [pad_len]; unfold padN; omega
theorem valid_pad {os : List Opt} (h : ∀ o ∈ os, badO o = false) (hl : (lay os).length ≤ 40) : validB (pad (lay os)) = true := by
  unfold validB
  rw [parse_build h]
  have h1 := pad_le hl (by decide)
  have h2 := pad_mod (lay os)
  simp [h1, h2]
theorem filter_good {os : List Opt} (h : ∀ o ∈ os, badO o = false) : ∀ o ∈ os.filter highB, badO o = false := fun o ho => h o (List.mem_filter.1 ho).1
theorem lay_filter (os : List Opt) : (lay (os.filter highB)).length ≤ (lay os).length := by
  induction os with
  | nil => simp [lay]
  | cons o os ih =>
    rw [List.filter_cons]
    split
    · simp only [lay, List.length_append]; omega
    · simp only [lay, List.length_append]; omega
theorem carry_pad {os : List Opt} (h : ∀ o ∈ os, badO o = false) (hl : (lay os).length ≤ 40) : carryL (pad (lay os)) = pad (lay (os.filter highB)) := by
  have hv := valid_pad h hl
  unfold carryL optsOf
  rw [if_pos hv, parse_build h]
  exact (build_ok (filter_good h) (Nat.le_trans (lay_filter os) hl)).2
theorem filter_filter_high (os : List Opt) : (os.filter highB).filter highB = os.filter highB := by simp
/-- what is carried is valid, no longer, and carried again the same -/
theorem carry_law {l : List Int} (hl : Byt l) : validB (carryL l) = true ∧ (carryL l).length ≤ l.length ∧ carryL (carryL l) = carryL l := by
  by_cases hv : validB l = true
  · have hv' := hv
    unfold validB at hv'
    simp only [Bool.and_eq_true, decide_eq_true_eq] at hv'
    obtain ⟨⟨h40, h4⟩, hp⟩ := hv'
    obtain ⟨os, hos⟩ := Option.isSome_iff_exists.1 hp
    obtain ⟨j, hj⟩ := parse_form hl hos
    have hlen := form_len hj
    have hg := good_of (parse_ok hl hos) (by omega)
    have hf := lay_filter os
    have e : carryL l = pad (lay (os.filter highB)) := by
      unfold carryL optsOf
      rw [if_pos hv, hos]
      exact (build_ok (filter_good hg) (by omega)).2
    rw [e]
    refine ⟨valid_pad (filter_good hg) (by omega), pad_le (by omega) h4, ?_⟩
    rw [carry_pad (filter_good hg) (by omega), filter_filter_high]
  · have e : carryL l = [] := by unfold carryL; rw [if_neg hv]
    rw [e]
    have hv0 : validB [] = true := by unfold validB; rw [parse_nil]; rfl
    refine ⟨hv0, by simp, ?_⟩
    unfold carryL optsOf
    rw [if_pos hv0, parse_nil]
    decide
theorem zeros_append (a b : List Int) : zerosB (a ++ b) = (zerosB a && zerosB b) := by simp [zerosB]
theorem parse_zeros_app (j : Nat) (r : List Int) : parseL (List.replicate (j + 1) 0 ++ r) = if zerosB r then some [] else none := by
  rw [List.replicate_succ, List.cons_append, parse_cons, if_pos rfl, zeros_append, zeros_rep]
  simp

end Go.Proofs.YtebfbpfikbjjlaaDoor
