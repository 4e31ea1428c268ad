/-
  The document's package udp: word.
-/
import Derived.Test.YtpiafmnfneefiaaUdpK
import Derived.Test.YtpiafmnfneefiaaAuto
namespace Go.Proofs.Ytpiafmnfneefiaa
open Go.RowKit

def WordPost (x : Int) (w : World) (en : Ending) (w' : World) : Prop := en = .returned (.int .i64 x) ∧ Drw w w'
set_option maxHeartbeats 1600000 in
theorem refWord_any (bv : Value) (l : List Int) (k : Nat) (w : World) (h : Rb w bv l) (hk : k + 2 ≤ l.length) : Calls Try.prog 41 #[bv, .int .i64 k] w (WordPost (wordL l k) w) := by
  have hx := h.byt.bd k
  have hy := h.byt.bd (k + 1)
  have e : Hid (wordL l k = 256 * gt l k + gt l (k + 1)) := hid rfl
  obtain ⟨a, cap, rfl, hc, hm, hz⟩ := h.open
  unfold maxLen at hm
  clear h
  rcases hz with h0 | ⟨b, off, rfl, hcell⟩
  · omega
  have c0 := hcell k (by omega)
  have c1 := hcell (k + 1) (by omega)
  clear hcell
  generalize gt l k = x at *
  generalize gt l (k + 1) = y at *
  have E := e
  generalize wordL l k = r at *
  have s1 : IntKind.i64.wrap ((k : Int) + 1) = (k : Int) + 1 := IntWalk.i64_in _ (by omega)
  go_enter Try.func41, Try.ntmps41
  go_wp2_with fail
  go_quiet (fail)
  go_wp2
  go_ret
  exact ⟨by rw [E.out]; rfl, ⟨_, rfl⟩⟩

end Go.Proofs.Ytpiafmnfneefiaa
