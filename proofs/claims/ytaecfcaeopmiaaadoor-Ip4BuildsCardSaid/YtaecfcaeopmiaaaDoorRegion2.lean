/-
  A region whose order is open, where at some place two operations may come up next: both ways are walked.
-/
import Derived.Test.YtaecfcaeopmiaaaDoorRegion
namespace Go.Proofs.YtaecfcaeopmiaaaDoor
section
variable {P : Program} {ops : Array Oper} {S : World → Prop} {Q : Exit → Act → World → Prop}

/-- the ways in which a region's operations are taken -/
inductive Ord where
  | done
  | weak (i : Nat) (t : Ord)
  | strong (i : Nat) (t : Ord)
  | two (i j : Nat) (t u : Ord)
def Ord.size : Ord → Nat
  | .done => 0
  | .weak _ t => t.size + 1
  | .strong _ t => t.size + 1
  | .two _ _ t u => max t.size u.size + 1
/-- are these all the ways that matter? -/
def Ord.ok (ops : Array Oper) : Ord → Array Bool → Bool
  | .done, listed => (Region.ready .any ops listed).isEmpty
  | .weak i t, listed => decide (i < ops.size) && (Region.free .any ops listed i && ((Region.ready .any ops listed).contains i && t.ok ops (listed.setIfInBounds i true)))
  | .strong i t, listed => decide (i < ops.size) && ((Region.ready .any ops listed == [i]) && t.ok ops (listed.setIfInBounds i true))
  | .two i j t u, listed => (decide (i < ops.size) && decide (j < ops.size)) && ((Region.ready .any ops listed == [i, j]) && (t.ok ops (listed.setIfInBounds i true) && u.ok ops (listed.setIfInBounds j true)))

/-- the walk in these ways -/
def wpO (P : Program) (ops : Array Oper) (S : World → Prop) (Q : Exit → Act → World → Prop) : Ord → Act → World → Prop
  | .done, a, w => Q .normal a w
  | .weak i t, a, w => ∃ o v, ops[i]? = some o ∧ YieldsIf P ops S o v a ∧ wpO P ops S Q t (a.put o.dst v) w
  | .strong i t, a, w => wpOp P ops Q i (fun a' w' => S w' ∧ wpO P ops S Q t a' w') a w
  | .two i j t u, a, w => wpOp P ops Q i (fun a' w' => S w' ∧ wpO P ops S Q t a' w') a w ∧ wpOp P ops Q j (fun a' w' => S w' ∧ wpO P ops S Q u a' w') a w

theorem wpAnyH_ord (hs : Region.noSelect ops = true) (hQ : ∀ c (a : Act) d v w, Q (.panic c) (a.put d v) w → Q (.panic c) a w) :
    ∀ (t : Ord) (fuel : Nat) (listed : Array Bool) (a : Act) (w : World), t.size ≤ fuel → t.ok ops listed = true → S w → wpO P ops S Q t a w → wpAnyH P .any ops Q S fuel listed a w
  | .done, fuel, listed, a, w, _, hB, _, h => wpAnyH_done (by simpa [Ord.ok] using hB) h fuel
  | .weak i t, 0, _, _, _, hl, _, _, _ => by simp [Ord.size] at hl
  | .strong i t, 0, _, _, _, hl, _, _, _ => by simp [Ord.size] at hl
  | .two i j t u, 0, _, _, _, hl, _, _, _ => by simp [Ord.size] at hl
  | .weak i t, fuel + 1, listed, a, w, hl, hB, hS, h => by
    simp only [Ord.ok, Bool.and_eq_true] at hB
    obtain ⟨o, v, ho, hy, h'⟩ := h
    exact wpAnyH_take ho hs hB.2.1 hB.2.2.1 (fun c a w => hQ c a _ v w) hy hS (wpAnyH_ord hs hQ t fuel _ _ _ (by simpa [Ord.size] using hl) hB.2.2.2 hS h')
  | .strong i t, fuel + 1, listed, a, w, hl, hB, hS, h => by
    simp only [Ord.ok, Bool.and_eq_true, beq_iff_eq] at hB
    refine wpAnyH_all hB.2.1 (by simp) fun j hj => ?_
    obtain rfl : j = i := by simpa using hj
    exact wpOp_mono (fun a' w' h' => ⟨h'.1, wpAnyH_ord hs hQ t fuel _ _ _ (by simpa [Ord.size] using hl) hB.2.2 h'.1 h'.2⟩) h
  | .two i j t u, fuel + 1, listed, a, w, hl, hB, hS, h => by
    simp only [Ord.ok, Bool.and_eq_true, beq_iff_eq] at hB
    have hl' : max t.size u.size ≤ fuel := by simpa [Ord.size] using hl
    refine wpAnyH_all hB.2.1 (by simp) fun k hk => ?_
    rcases List.mem_cons.1 hk with rfl | hk
    · exact wpOp_mono (fun a' w' h' => ⟨h'.1, wpAnyH_ord hs hQ t fuel _ _ _ (by omega) hB.2.2.1 h'.1 h'.2⟩) h.1
    · obtain rfl : k = j := by simpa using hk
      exact wpOp_mono (fun a' w' h' => ⟨h'.1, wpAnyH_ord hs hQ u fuel _ _ _ (by omega) hB.2.2.2 h'.1 h'.2⟩) h.2

/-- the ways with the operations themselves -/
inductive OrdO where
  | done
  | weak (o : Oper) (t : OrdO)
  | strong (o : Oper) (t : OrdO)
  | two (o p : Oper) (t u : OrdO)
def Ord.pick (l : List Oper) : Ord → OrdO
  | .done => .done
  | .weak i t => match l[i]? with
    | some o => .weak o (t.pick l)
    | none => .done
  | .strong i t => match l[i]? with
    | some o => .strong o (t.pick l)
    | none => .done
  | .two i j t u => match l[i]?, l[j]? with
    | some o, some p => .two o p (t.pick l) (u.pick l)
    | _, _ => .done
def wpS (P : Program) (ops : Array Oper) (S : World → Prop) (Q : Exit → Act → World → Prop) (o : Oper) (k : Act → World → Prop) (a : Act) (w : World) : Prop :=
  (Region.wanted o (yielded ops a.tmps) = true ∧ o.wp P a w (fun a' w' => S w' ∧ k a' w') Q) ∨ (Region.wanted o (yielded ops a.tmps) = false ∧ S w ∧ k (a.put o.dst undef) w)
def wpE (P : Program) (ops : Array Oper) (S : World → Prop) (Q : Exit → Act → World → Prop) : OrdO → Act → World → Prop
  | .done, a, w => Q .normal a w
  | .weak o t, a, w => ∃ v, YieldsIf P ops S o v a ∧ wpE P ops S Q t (a.put o.dst v) w
  | .strong o t, a, w => wpS P ops S Q o (wpE P ops S Q t) a w
  | .two o p t u, a, w => wpS P ops S Q o (wpE P ops S Q t) a w ∧ wpS P ops S Q p (wpE P ops S Q u) a w
theorem wpOp_of_wpS {l : List Oper} {i : Nat} {o : Oper} {k k' : Act → World → Prop} {a : Act} {w : World} (ho : l[i]? = some o) (hk : ∀ a w, k a w → k' a w) (h : wpS P l.toArray S Q o k a w) :
    wpOp P l.toArray Q i (fun a' w' => S w' ∧ k' a' w') a w := by
  have hi' : l.toArray[i]? = some o := by rw [List.getElem?_toArray]; exact ho
  unfold wpOp
  rw [hi']
  rcases h with ⟨hg, h⟩ | ⟨hg, hS, h⟩
  · simp only [hg, if_true]
    refine .inl ?_
    unfold Oper.wp at *
    exact Oper.upon_mono' (fun a' w' hh => ⟨hh.1, hk _ _ hh.2⟩) h
  · simp only [hg, Bool.false_eq_true, if_false]
    exact ⟨hS, hk _ _ h⟩
theorem wpO_of_wpE {l : List Oper} : ∀ (t : Ord) (listed : Array Bool) (a : Act) (w : World), t.ok l.toArray listed = true → wpE P l.toArray S Q (t.pick l) a w → wpO P l.toArray S Q t a w
  | .done, _, _, _, _, h => h
  | .weak i t, listed, a, w, hb, h => by
    simp only [Ord.ok, Bool.and_eq_true, decide_eq_true_eq, List.size_toArray] at hb
    have hi : l[i]? = some l[i] := List.getElem?_eq_getElem hb.1
    simp only [Ord.pick, hi] at h
    obtain ⟨v, hy, hr⟩ := h
    exact ⟨l[i], v, by rw [List.getElem?_toArray]; exact hi, hy, wpO_of_wpE t _ _ _ hb.2.2.2 hr⟩
  | .strong i t, listed, a, w, hb, h => by
    simp only [Ord.ok, Bool.and_eq_true, decide_eq_true_eq, List.size_toArray] at hb
    have hi : l[i]? = some l[i] := List.getElem?_eq_getElem hb.1
    simp only [Ord.pick, hi] at h
    exact wpOp_of_wpS hi (fun a w => wpO_of_wpE t _ a w hb.2.2) h
  | .two i j t u, listed, a, w, hb, h => by
    simp only [Ord.ok, Bool.and_eq_true, decide_eq_true_eq, List.size_toArray] at hb
    have hi : l[i]? = some l[i] := List.getElem?_eq_getElem hb.1.1
    have hj : l[j]? = some l[j] := List.getElem?_eq_getElem hb.1.2
    simp only [Ord.pick, hi, hj] at h
    exact ⟨wpOp_of_wpS hi (fun a w => wpO_of_wpE t _ a w hb.2.2.1) h.1, wpOp_of_wpS hj (fun a w => wpO_of_wpE u _ a w hb.2.2.2) h.2⟩

/-- the beginning -/
theorem wp_region_ord {id : Nat} {l : List Oper} {a : Act} {w : World} (t : Ord) (S : World → Prop) (hm : P.follows .mixedOrders = true)
    (hB : (Region.noSelect l.toArray && (decide (t.size ≤ l.length) && t.ok l.toArray (Array.replicate l.toArray.size false))) = true)
    (hQ : ∀ c (a : Act) d v w, Q (.panic c) (a.put d v) w → Q (.panic c) a w)
    (hS : S w.drew) (h : wpE P l.toArray S Q (t.pick l) a w.drew) : (Code.region id l.toArray true).wp P Q a w := by
  simp only [Bool.and_eq_true, decide_eq_true_eq] at hB
  refine wp_region_held (S := S) hm ?_
  exact wpAnyH_ord hB.1 hQ t _ _ _ _ (by simp; exact hB.2.1) hB.2.2 hS (wpO_of_wpE t _ _ _ hB.2.2 h)

theorem wpE_done {a : Act} {w : World} (h : Q .normal a w) : wpE P ops S Q .done a w := h
theorem wpE_weak {o : Oper} {t : OrdO} {a : Act} {w : World} (hg : Region.wanted o (yielded ops a.tmps) = true)
    (h : ∃ v, (∀ w', S w' → (execOp a.eval o).run P w' = .ok (.value v) w') ∧ wpE P ops S Q t (a.put o.dst v) w) : wpE P ops S Q (.weak o t) a w :=
  let ⟨v, hv, hr⟩ := h
  ⟨v, .inl ⟨hg, hv⟩, hr⟩
theorem wpE_pass {o : Oper} {t : OrdO} {a : Act} {w : World} (hg : Region.wanted o (yielded ops a.tmps) = false)
    (h : wpE P ops S Q t (a.put o.dst undef) w) : wpE P ops S Q (.weak o t) a w := ⟨undef, .inr ⟨hg, rfl⟩, h⟩
theorem wpS_do {o : Oper} {k : Act → World → Prop} {a : Act} {w : World} (hg : Region.wanted o (yielded ops a.tmps) = true)
    (h : ∀ K : Act → World → Prop, (∀ a' w', S w' → k a' w' → K a' w') → o.wp P a w K Q) : wpS P ops S Q o k a w :=
  .inl ⟨hg, h _ fun _ _ h1 h2 => ⟨h1, h2⟩⟩
theorem wpS_pass {o : Oper} {k : Act → World → Prop} {a : Act} {w : World} (hg : Region.wanted o (yielded ops a.tmps) = false) (hS : S w)
    (h : k (a.put o.dst undef) w) : wpS P ops S Q o k a w := .inr ⟨hg, hS, h⟩
theorem wpE_strong {o : Oper} {t : OrdO} {a : Act} {w : World} (h : wpS P ops S Q o (wpE P ops S Q t) a w) : wpE P ops S Q (.strong o t) a w := h
theorem wpE_two {o p : Oper} {t u : OrdO} {a : Act} {w : World} (h : wpS P ops S Q o (wpE P ops S Q t) a w) (h' : wpS P ops S Q p (wpE P ops S Q u) a w) : wpE P ops S Q (.two o p t u) a w := ⟨h, h'⟩
end
end Go.Proofs.YtaecfcaeopmiaaaDoor
