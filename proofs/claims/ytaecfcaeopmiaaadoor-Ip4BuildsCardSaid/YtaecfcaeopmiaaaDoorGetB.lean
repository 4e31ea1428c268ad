/-
  A byte of what a slice reads as.
-/
import Derived.Test.YtaecfcaeopmiaaaDoorSp
namespace Go.Proofs.YtaecfcaeopmiaaaDoor
open Go.RowKit

/-- a byte of what a slice reads as, loaded -/
theorem wpList_get_rb {w : World} {ops : Array Oper} {rest : List Oper} {o : Oper} {a : Act} {Q : Exit → Act → World → Prop} (hgd : Region.wanted o (yielded ops a.tmps) = true) (x : Operand) (ho : o.op = .load 5 x) {l : List Int} {b off n c : Nat}
    (hR : Rb w (.slice (some ⟨b, off, none⟩) n c) l) (j k : Nat) (hx : a.eval x = .pointer (some ⟨b, k, none⟩)) (hk : k = off + j) (hj : j < l.length) (h : wpList Tryd.prog ops Q rest (a.put o.dst (.int .u8 (gt l j))) w) : wpList Tryd.prog ops Q (o :: rest) a w := by
  subst hk
  obtain ⟨a', c', e, _, _, hz⟩ := hR.open
  simp only [Value.slice.injEq] at e
  obtain ⟨rfl, -, rfl⟩ := e
  rcases hz with h0 | ⟨b', off', e, hc⟩
  · omega
  · simp only [Option.some.injEq, Addr.mk.injEq, and_true] at e
    obtain ⟨rfl, rfl⟩ := e
    exact wpList_load_one hgd 5 x ho _ _ hx _ (hc j hj) (by kernel_rfl) h
theorem Rb.cellAt {w : World} {l : List Int} {b off n c : Nat} (hR : Rb w (.slice (some ⟨b, off, none⟩) n c) l) {j : Nat} (hj : j < l.length) : w.cell? ⟨b, off + j, none⟩ = some (.int .u8 (gt l j)) := by
  obtain ⟨a', c', e, _, _, hz⟩ := hR.open
  simp only [Value.slice.injEq] at e
  obtain ⟨rfl, -, rfl⟩ := e
  rcases hz with h0 | ⟨b', off', e, hc⟩
  · omega
  · simp only [Option.some.injEq, Addr.mk.injEq, and_true] at e
    obtain ⟨rfl, rfl⟩ := e
    exact hc j hj
end Go.Proofs.YtaecfcaeopmiaaaDoor
