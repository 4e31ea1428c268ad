/-
  Bytes and a number, told by a call.
-/
import Derived.Test.YtaecfcaeopmiaaaDoorSp
import Derived.Test.YtaecfcaeopmiaaaDoorU2
namespace Go.Proofs.YtaecfcaeopmiaaaDoor
open Go.RowKit

theorem be2' {v : Int} (h0 : 0 ≤ v) (h1 : v ≤ 65535) : be 2 v = [v / 256, v % 256] := by simp [be]; omega
theorem be1' {v : Int} (h0 : 0 ≤ v) (h1 : v ≤ 255) : be 1 v = [v] := by simp [be]; omega
theorem be4' {v : Int} (h0 : 0 ≤ v) (h1 : v ≤ 4294967295) : be 4 v = [v / 16777216, v / 65536 % 256, v / 256 % 256, v % 256] := by simp [be]; omega
def B6Post (e : Int) (l : List Int) (w : World) (en : Ending) (w' : World) : Prop :=
  ∃ v, en = .returned (.tuple #[v, .int .i64 e]) ∧ w'.ownsRow w.heap.size 5 1 v l.length (bts l) ∧ Below w.heap.size w w'
/-- bytes that a call tells, with a number -/
def BB (e : Int) (n : Nat) (l : List Int) (w : World) (en : Ending) (w' : World) : Prop :=
  ∃ a c, en = .returned (.tuple #[.slice a n c, .int .i64 e]) ∧ Sp w w' [.row (.slice a n c) 5 1 n (bts l)]
theorem B6Post.bb {e : Int} {l : List Int} {n : Nat} {w w' : World} {en : Ending} (h : B6Post e l w en w') (hn : l.length = n) : BB e n l w en w' := by
  obtain ⟨v, he, ho, hb⟩ := h
  subst hn
  obtain ⟨a, c, rfl, _⟩ := own_shape ho
  exact ⟨a, c, he, Sp.ofOwn ho hb⟩
end Go.Proofs.YtaecfcaeopmiaaaDoor
