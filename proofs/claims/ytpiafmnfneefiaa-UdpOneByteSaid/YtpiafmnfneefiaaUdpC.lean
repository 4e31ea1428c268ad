/-
  package udp: Build.
-/
import Derived.Test.YtpiafmnfneefiaaUdpS
import Derived.Test.YtpiafmnfneefiaaWr
namespace Go.Proofs.Ytpiafmnfneefiaa
open Go.RowKit

theorem be2 {v : Int} (h0 : 0 ≤ v) (h1 : v ≤ 65535) : be 2 v = [v / 256, v % 256] := by
  simp [be]; omega
/-- a datagram's bytes, the sum left out -/
def dgB (sp dp : Int) (d : List Int) : List Int := [sp / 256, sp % 256, dp / 256, dp % 256, (8 + (d.length : Int)) / 256, (8 + (d.length : Int)) % 256, 0, 0] ++ d
/-- the sum that stands in it -/
def dgS (V : Int) (bs bs2 : List Int) (sp dp : Int) (d : List Int) : Int :=
  if 65535 - partL (headL V bs bs2 17 (8 + (d.length : Int)) ++ dgB sp dp d) = 0 then 65535 else 65535 - partL (headL V bs bs2 17 (8 + (d.length : Int)) ++ dgB sp dp d)
def dgL (V : Int) (bs bs2 : List Int) (sp dp : Int) (ns : Bool) (d : List Int) : List Int :=
  if ns = true then dgB sp dp d else ((dgB sp dp d).set 6 (dgS V bs bs2 sp dp d / 256)).set 7 (dgS V bs bs2 sp dp d % 256)
def portB (n : Int) : Bool := decide (0 ≤ n) && decide (n ≤ 65535)
def dgE (V : Int) (bs : List Int) (V2 : Int) (bs2 : List Int) (sp dp : Int) (ns : Bool) (d : List Int) : Int :=
  if (pairA V bs V2 bs2 && portB sp && portB dp && !(ns && decide (V = 6))) = true then (if mostV V < d.length then 3 else 0) else 1
def dgR (V : Int) (bs : List Int) (V2 : Int) (bs2 : List Int) (sp dp : Int) (ns : Bool) (d : List Int) : List Int := if dgE V bs V2 bs2 sp dp ns d = 0 then dgL V bs bs2 sp dp ns d else []
theorem portB_parts {n : Int} (h : portB n = true) : 0 ≤ n ∧ n ≤ 65535 := by simpa [portB] using h
theorem dgB_byt {sp dp : Int} {d : List Int} (hs : 0 ≤ sp ∧ sp ≤ 65535) (hd : 0 ≤ dp ∧ dp ≤ 65535) (hb : Byt d) (hl : d.length ≤ 65527) : Byt (dgB sp dp d) := by
  unfold dgB
  refine Byt.append ?_ hb
  intro x hx
  simp at hx
  omega
theorem dgB_len (sp dp : Int) (d : List Int) : (dgB sp dp d).length = 8 + d.length := by simp [dgB]; omega
theorem dgS_bd {V : Int} {bs bs2 : List Int} {sp dp : Int} {d : List Int} (h : Byt (headL V bs bs2 17 (8 + (d.length : Int)) ++ dgB sp dp d)) : 1 ≤ dgS V bs bs2 sp dp d ∧ dgS V bs bs2 sp dp d ≤ 65535 := by
  have := partL_bd h
  unfold dgS
  split <;> omega
theorem dgL_len (V : Int) (bs bs2 : List Int) (sp dp : Int) (ns : Bool) (d : List Int) : (dgL V bs bs2 sp dp ns d).length = 8 + d.length := by
  unfold dgL
  split
  · exact dgB_len _ _ _
  · simp [dgB_len]
/-- three boxes: two addresses and a datagram -/
theorem dg_boxes (w : World) (V : Int) (bs : List Int) (V2 : Int) (bs2 : List Int) (D : Array Value) (t : TypeId) :
    AddrAt (((w.alloc (.cells (addrC V bs) 24)).alloc (.cells (addrC V2 bs2) 24)).alloc (.cells D t)) w.heap.size V bs ∧
    AddrAt (((w.alloc (.cells (addrC V bs) 24)).alloc (.cells (addrC V2 bs2) 24)).alloc (.cells D t)) (w.heap.size + 1) V2 bs2 ∧
    (((w.alloc (.cells (addrC V bs) 24)).alloc (.cells (addrC V2 bs2) 24)).alloc (.cells D t)).heap[w.heap.size + 2]? = some (.cells D t (0, 0)) ∧
    Below w.heap.size w (((w.alloc (.cells (addrC V bs) 24)).alloc (.cells (addrC V2 bs2) 24)).alloc (.cells D t)) := by
  obtain ⟨h1, h2, h3⟩ := two_addr w V bs V2 bs2
  refine ⟨h1.below (bel_alloc _ _), h2.below (bel_alloc _ _), ?_, h3.trans ((bel_alloc _ _).mono h3.size)⟩
  have := heap_alloc_new ((w.alloc (.cells (addrC V bs) 24)).alloc (.cells (addrC V2 bs2) 24)) (.cells D t)
  simpa using this
theorem cells4 {w : World} {b : Nat} {u v x y : Value} {t : TypeId} (h : w.heap[b]? = some (.cells #[u, v, x, y] t (0, 0))) :
    w.cell? ⟨b, 0, none⟩ = some u ∧ w.cell? ⟨b, 1, none⟩ = some v ∧ w.cell? ⟨b, 2, none⟩ = some x ∧ w.cell? ⟨b, 3, none⟩ = some y := by
  refine ⟨?_, ?_, ?_, ?_⟩ <;> simp [World.cell?, h]
theorem frozen4 {w : World} {b : Nat} {cs : Array Value} {t : TypeId} (h : w.heap[b]? = some (.cells cs t (0, 0))) :
    w.frozen? ⟨b, 0, none⟩ = false ∧ w.frozen? ⟨b, 1, none⟩ = false ∧ w.frozen? ⟨b, 2, none⟩ = false ∧ w.frozen? ⟨b, 3, none⟩ = false := by
  refine ⟨?_, ?_, ?_, ?_⟩ <;> simp [World.frozen?, h]
theorem blk_below {w w' : World} {b : Nat} {o : Obj} (h : w.heap[b]? = some o) (hb : Below w.heap.size w w') : w'.heap[b]? = some o := (hb.block b (by have := (Array.getElem?_eq_some_iff.1 h).1; exact this)).trans h

end Go.Proofs.Ytpiafmnfneefiaa
