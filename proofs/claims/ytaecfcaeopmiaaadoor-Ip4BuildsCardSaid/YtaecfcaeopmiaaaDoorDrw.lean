/-
  A world that has only drawn; a slice's length.
-/
import Derived.Test.YtaecfcaeopmiaaaDoorGen
namespace Go.Proofs.YtaecfcaeopmiaaaDoor
open Go.RowKit
def slen : Value → Nat
  | .slice _ n _ => n
  | _ => 0
theorem slen_mk (a : Option Addr) (n c : Nat) : slen (.slice a n c) = n := rfl
def Drw (w w' : World) : Prop := ∃ n, w' = w.drewN n
theorem Drw.refl (w : World) : Drw w w := ⟨0, rfl⟩
theorem Drw.step {a b : World} (h : Drw a b) (n : Nat) : Drw a (b.drewN n) := by obtain ⟨m, rfl⟩ := h; exact ⟨m + n, by rw [World.drewN_drewN]⟩
theorem Drw.trans {a b c : World} (h : Drw a b) (k : Drw b c) : Drw a c := by obtain ⟨m, rfl⟩ := k; exact h.step m
theorem Drw.same {a b : World} (h : Drw a b) : Same a b := by obtain ⟨m, rfl⟩ := h; exact Same.drewN _ _
theorem Drw.below {a b : World} (h : Drw a b) (B : Nat) : Below B a b := h.same.below B
end Go.Proofs.YtaecfcaeopmiaaaDoor
