/-
  A region whose order is open, walked once: what only looks is taken as soon as it may come up, the rest as it comes; the order is handed in, and a Bool over the region's text says that it is the only one that matters.
-/
import Derived.Test.YtaecfcaeopmiaaaDoorBase
import Derived.OrdersHeld
import Derived.RegionTactic
import Derived.Deep.RegionWith
namespace Go.Proofs.YtaecfcaeopmiaaaDoor
section
variable {P : Program} {ops : Array Oper} {S : World → Prop} {Q : Exit → Act → World → Prop}

theorem Oper.upon_mono' {o : Oper} {a : Act} {K K' : Act → World → Prop} (h : ∀ a w, K a w → K' a w) {r : Result Next} (hh : o.upon P a K Q r) : o.upon P a K' Q r := by
  cases r with
  | ok n w' =>
    cases n <;> simp only [Oper.upon] at hh ⊢
    case value u => exact h _ _ hh
    case skip => exact h _ _ hh
    case defer d => exact h _ _ hh
    case enter f args => exact Calls.mono hh (fun e w'' he => by cases e <;> first | exact h _ _ he | exact he)
    case row row args => exact Rows.mono hh (fun u w'' he => h _ _ he)
  | halt x w' => cases x <;> simp only [Oper.upon] at hh ⊢ <;> exact hh

/-- may the operations be taken so: one that only looks, ahead of all that don't hang on it; any other only where it alone may come up -/
def canonB (ops : Array Oper) : List (Nat × Bool) → Array Bool → Bool
  | [], listed => (Region.ready .any ops listed).isEmpty
  | (i, false) :: l, listed => Region.free .any ops listed i && ((Region.ready .any ops listed).contains i && canonB ops l (listed.setIfInBounds i true))
  | (i, true) :: l, listed => (Region.ready .any ops listed == [i]) && canonB ops l (listed.setIfInBounds i true)

/-- the walk in that order -/
def wpC (P : Program) (ops : Array Oper) (S : World → Prop) (Q : Exit → Act → World → Prop) : List (Nat × Bool) → Act → World → Prop
  | [], a, w => Q .normal a w
  | (i, false) :: l, a, w => ∃ o v, ops[i]? = some o ∧ YieldsIf P ops S o v a ∧ wpC P ops S Q l (a.put o.dst v) w
  | (i, true) :: l, a, w => wpOp P ops Q i (fun a' w' => S w' ∧ wpC P ops S Q l a' w') a w

theorem wpAnyH_canon (hs : Region.noSelect ops = true) (hQ : ∀ c (a : Act) d v w, Q (.panic c) (a.put d v) w → Q (.panic c) a w) :
    ∀ (l : List (Nat × Bool)) (fuel : Nat) (listed : Array Bool) (a : Act) (w : World), l.length ≤ fuel → canonB ops l listed = true → S w → wpC P ops S Q l a w → wpAnyH P .any ops Q S fuel listed a w
  | [], fuel, listed, a, w, _, hB, _, h => wpAnyH_done (by simpa [canonB] using hB) h fuel
  | (i, false) :: l, 0, _, _, _, hl, _, _, _ => by simp at hl
  | (i, true) :: l, 0, _, _, _, hl, _, _, _ => by simp at hl
  | (i, false) :: l, fuel + 1, listed, a, w, hl, hB, hS, h => by
    simp only [canonB, Bool.and_eq_true] at hB
    obtain ⟨o, v, ho, hy, h'⟩ := h
    exact wpAnyH_take ho hs hB.1 hB.2.1 (fun c a w => hQ c a _ v w) hy hS (wpAnyH_canon hs hQ l fuel _ _ _ (by simpa using hl) hB.2.2 hS h')
  | (i, true) :: l, fuel + 1, listed, a, w, hl, hB, hS, h => by
    simp only [canonB, Bool.and_eq_true, beq_iff_eq] at hB
    refine wpAnyH_all hB.1 (by simp) fun j hj => ?_
    obtain rfl : j = i := by simpa using hj
    exact wpOp_mono (fun a' w' h' => ⟨h'.1, wpAnyH_canon hs hQ l fuel _ _ _ (by simpa using hl) hB.2 h'.1 h'.2⟩) h

/-- the operations themselves, in that order -/
def pick (l : List Oper) : List (Nat × Bool) → List (Oper × Bool)
  | [] => []
  | (i, b) :: r => match l[i]? with
    | some o => (o, b) :: pick l r
    | none => pick l r
/-- the walk over them -/
def wpD (P : Program) (ops : Array Oper) (S : World → Prop) (Q : Exit → Act → World → Prop) : List (Oper × Bool) → Act → World → Prop
  | [], a, w => Q .normal a w
  | (o, false) :: l, a, w => ∃ v, YieldsIf P ops S o v a ∧ wpD P ops S Q l (a.put o.dst v) w
  | (o, true) :: l, a, w => (Region.wanted o (yielded ops a.tmps) = true ∧ o.wp P a w (fun a' w' => S w' ∧ wpD P ops S Q l a' w') Q) ∨ (Region.wanted o (yielded ops a.tmps) = false ∧ S w ∧ wpD P ops S Q l (a.put o.dst undef) w)
theorem wpC_of_wpD {l : List Oper} : ∀ (ord : List (Nat × Bool)) (a : Act) (w : World), (ord.all fun p => decide (p.1 < l.length)) = true → wpD P l.toArray S Q (pick l ord) a w → wpC P l.toArray S Q ord a w
  | [], _, _, _, h => h
  | (i, b) :: r, a, w, hb, h => by
    simp only [List.all_cons, Bool.and_eq_true, decide_eq_true_eq] at hb
    have hi : l[i]? = some l[i] := List.getElem?_eq_getElem hb.1
    have hi' : l.toArray[i]? = some l[i] := by rw [List.getElem?_toArray]; exact hi
    simp only [pick, hi] at h
    cases b with
    | false =>
      obtain ⟨v, hy, hr⟩ := h
      exact ⟨l[i], v, hi', hy, wpC_of_wpD r _ _ hb.2 hr⟩
    | true =>
      show wpOp P l.toArray Q i _ a w
      unfold wpOp
      rw [hi']
      rcases h with ⟨hg, h⟩ | ⟨hg, hS, h⟩
      · simp only [hg, if_true]
        refine .inl ?_
        unfold Oper.wp at *
        exact Oper.upon_mono' (fun a' w' hh => ⟨hh.1, wpC_of_wpD r a' w' hb.2 hh.2⟩) h
      · simp only [hg, Bool.false_eq_true, if_false]
        exact ⟨hS, wpC_of_wpD r _ _ hb.2 h⟩

/-- the beginning -/
theorem wp_region_canon {id : Nat} {l : List Oper} {a : Act} {w : World} (ord : List (Nat × Bool)) (S : World → Prop) (hm : P.follows .mixedOrders = true)
    (hB : (Region.noSelect l.toArray && (decide (ord.length ≤ l.length) && ((ord.all fun p => decide (p.1 < l.length)) && canonB l.toArray ord (Array.replicate l.toArray.size false)))) = true)
    (hQ : ∀ c (a : Act) d v w, Q (.panic c) (a.put d v) w → Q (.panic c) a w)
    (hS : S w.drew) (h : wpD P l.toArray S Q (pick l ord) a w.drew) : (Code.region id l.toArray true).wp P Q a w := by
  simp only [Bool.and_eq_true, decide_eq_true_eq] at hB
  refine wp_region_held (S := S) hm ?_
  exact wpAnyH_canon hB.1 hQ ord _ _ _ _ (by simp; exact hB.2.1) hB.2.2.2 hS (wpC_of_wpD ord _ _ hB.2.2.1 h)

theorem wpD_nil {a : Act} {w : World} (h : Q .normal a w) : wpD P ops S Q [] a w := h
/-- what only looks: its value, in every world that meets S -/
theorem wpD_weak {o : Oper} {l : List (Oper × Bool)} {a : Act} {w : World} (hg : Region.wanted o (yielded ops a.tmps) = true)
    (h : ∃ v, (∀ w', S w' → (execOp a.eval o).run P w' = .ok (.value v) w') ∧ wpD P ops S Q l (a.put o.dst v) w) : wpD P ops S Q ((o, false) :: l) a w :=
  let ⟨v, hv, hr⟩ := h
  ⟨v, .inl ⟨hg, hv⟩, hr⟩
/-- its guard says no -/
theorem wpD_pass {o : Oper} {l : List (Oper × Bool)} {a : Act} {w : World} (hg : Region.wanted o (yielded ops a.tmps) = false)
    (h : wpD P ops S Q l (a.put o.dst undef) w) : wpD P ops S Q ((o, false) :: l) a w := ⟨undef, .inr ⟨hg, rfl⟩, h⟩
/-- any other: S is shown anew behind it -/
theorem wpD_strong {o : Oper} {l : List (Oper × Bool)} {a : Act} {w : World} (hg : Region.wanted o (yielded ops a.tmps) = true)
    (h : ∀ K : Act → World → Prop, (∀ a' w', S w' → wpD P ops S Q l a' w' → K a' w') → o.wp P a w K Q) : wpD P ops S Q ((o, true) :: l) a w :=
  .inl ⟨hg, h _ fun _ _ h1 h2 => ⟨h1, h2⟩⟩
theorem wpD_spass {o : Oper} {l : List (Oper × Bool)} {a : Act} {w : World} (hg : Region.wanted o (yielded ops a.tmps) = false) (hS : S w)
    (h : wpD P ops S Q l (a.put o.dst undef) w) : wpD P ops S Q ((o, true) :: l) a w := .inr ⟨hg, hS, h⟩
end
end Go.Proofs.YtaecfcaeopmiaaaDoor
