/-
  A region of open order, walked as a tree: an operation that does more than look is taken by the laws of the plain walk.
-/
import Derived.Test.YtaecfcaeopmiaaaDoorRegion2
namespace Go.Proofs.YtaecfcaeopmiaaaDoor
section
variable {P : Program} {ops : Array Oper} {S : World → Prop} {Q : Exit → Act → World → Prop}
theorem Oper.upon_mono2 {o : Oper} {a : Act} {K K' : Act → World → Prop} {Q Q' : Exit → Act → World → Prop} (h : ∀ a w, K a w → K' a w) (hp : ∀ c a w, Q (.panic c) a w → Q' (.panic c) a w) (ho : LetsOut Q → LetsOut Q') {r : Result Next} (hh : o.upon P a K Q r) : o.upon P a K' Q' r := by
  cases r with
  | ok n w' =>
    cases n <;> simp only [Oper.upon] at hh ⊢
    case value u => exact h _ _ hh
    case skip => exact h _ _ hh
    case defer d => exact h _ _ hh
    case enter f args => exact Calls.mono hh (fun e w'' he => by
      cases e with
      | returned v => exact h _ _ he
      | panicked c => exact hp _ _ _ he
      | outgrown => exact ho he)
    case row row args => exact Rows.mono hh (fun u w'' he => h _ _ he)
  | halt x w' => cases x <;> simp only [Oper.upon] at hh ⊢ <;> exact hp _ _ _ hh
/-- where a single operation's walk ends -/
def qEnd (K : Act → World → Prop) (Q : Exit → Act → World → Prop) (e : Exit) (a : Act) (w : World) : Prop := (e = .normal ∧ K a w) ∨ (∃ c, e = .panic c ∧ Q e a w)
theorem qEnd_out {K : Act → World → Prop} : ¬ LetsOut (qEnd K Q) := by
  rintro ⟨a, w, h | ⟨c, h, _⟩⟩
  · cases h.1
  · cases h
theorem wp_of_wpList {o : Oper} {a : Act} {w : World} {K : Act → World → Prop} (hg : Region.wanted o (yielded ops a.tmps) = true) (h : wpList P ops (qEnd K Q) [o] a w) : o.wp P a w K Q := by
  unfold wpList at h
  rw [if_pos hg] at h
  rcases h with h | ⟨_, h⟩
  · unfold Oper.wp at h ⊢
    refine Oper.upon_mono2 (fun a' w' hh => ?_) (fun c a' w' hh => ?_) (fun h => absurd h qEnd_out) h
    · rcases (show qEnd K Q .normal a' w' from hh) with h | ⟨c, h, _⟩
      · exact h.2
      · cases h
    · rcases (show qEnd K Q (.panic c) a' w' from hh) with h | ⟨c, _, h⟩
      · cases h.1
      · exact h
  · exact absurd h qEnd_out
theorem wpS_list {o : Oper} {k : Act → World → Prop} {a : Act} {w : World} (hg : Region.wanted o (yielded ops a.tmps) = true) (h : wpList P ops (qEnd (fun a' w' => S w' ∧ k a' w') Q) [o] a w) : wpS P ops S Q o k a w := .inl ⟨hg, wp_of_wpList hg h⟩
theorem wpE_strongL {o : Oper} {t : OrdO} {a : Act} {w : World} (hg : Region.wanted o (yielded ops a.tmps) = true) (h : wpList P ops (qEnd (fun a' w' => S w' ∧ wpE P ops S Q t a' w') Q) [o] a w) : wpE P ops S Q (.strong o t) a w := wpS_list hg h
theorem wpE_twoL {o p : Oper} {t u : OrdO} {a : Act} {w : World} (hg : Region.wanted o (yielded ops a.tmps) = true) (hg2 : Region.wanted p (yielded ops a.tmps) = true)
    (h : wpList P ops (qEnd (fun a' w' => S w' ∧ wpE P ops S Q t a' w') Q) [o] a w) (h' : wpList P ops (qEnd (fun a' w' => S w' ∧ wpE P ops S Q u a' w') Q) [p] a w) : wpE P ops S Q (.two o p t u) a w := ⟨wpS_list hg h, wpS_list hg2 h'⟩
/-- the same in the walk of one order -/
theorem wpD_strongL {o : Oper} {l : List (Oper × Bool)} {a : Act} {w : World} (hg : Region.wanted o (yielded ops a.tmps) = true) (h : wpList P ops (qEnd (fun a' w' => S w' ∧ wpD P ops S Q l a' w') Q) [o] a w) : wpD P ops S Q ((o, true) :: l) a w := .inl ⟨hg, wp_of_wpList hg h⟩
theorem qEnd_done {k : Act → World → Prop} {a : Act} {w : World} (hS : S w) (h : k a w) : qEnd (fun a' w' => S w' ∧ k a' w') Q .normal a w := .inl ⟨rfl, hS, h⟩
end
end Go.Proofs.YtaecfcaeopmiaaaDoor
