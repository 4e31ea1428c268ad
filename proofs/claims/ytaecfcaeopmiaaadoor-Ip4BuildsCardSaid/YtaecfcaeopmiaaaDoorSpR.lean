/-
  A reader among the things of a call.
-/
import Derived.Test.YtaecfcaeopmiaaaDoorSp
import Derived.Test.YtaecfcaeopmiaaaDoorRdr
namespace Go.Proofs.YtaecfcaeopmiaaaDoor
open Go.RowKit

theorem rb_move {w w' : World} {v : Value} {l : List Int} (h : Rb w v l) (hb : l ≠ [] → ∀ b, v.ownBlock = some b → w'.heap[b]? = w.heap[b]?) : Rb w' v l := by
  obtain ⟨h0, a, cap, rfl, h1, h2, h3, h4⟩ := h
  refine ⟨h0, a, cap, rfl, h1, h2, h3, fun j hj => ?_⟩
  obtain ⟨b, off, rfl, hc⟩ := h4 j hj
  refine ⟨b, off, rfl, ?_⟩
  rw [← hc]
  have := hb (fun e => by rw [e] at hj; simp at hj) b rfl
  simp only [World.cell?, this]
theorem RdP.move {base top : Nat} {w w' : World} {rb : Nat} {l : List Int} {k : Nat} (h : RdP base top w rb l k) (hz : w.heap.size ≤ w'.heap.size) (hb : ∀ k, base ≤ k → k < top → w'.heap[k]? = w.heap[k]?) : RdP base top w' rb l k := by
  refine ⟨h.le, Nat.le_trans h.tp hz, h.byt, ?_⟩
  obtain ⟨h1, hl, sv, h2, h3, h4⟩ := h.is
  have inz : ∀ k, rng base top k = 1 → base ≤ k ∧ k < top := fun k hk => by
    unfold rng at hk
    split at hk
    · assumption
    · cases hk
  refine ⟨h1, hl, sv, ?_, rb_move h3 fun hne b hbb => hb b (inz b (h4 hne b hbb)).1 (inz b (h4 hne b hbb)).2, h4⟩
  rw [hb rb (inz rb h1).1 (inz rb h1).2]
  exact h2
/-- a reader of the bytes l, at place k -/
def rdZ (base top rb : Nat) (l : List Int) (k : Nat) : Res := .zone base top fun W => RdP base top W rb l k
theorem rdZ_ok {B base top rb k : Nat} {l : List Int} {w : World} (h : RdP base top w rb l k) (hB : B ≤ base) : (rdZ base top rb l k).ok B w :=
  ⟨⟨hB, h.tp⟩, h, fun _ _ hb hz h => RdP.move h hz hb⟩
theorem Sp.newR {w0 w w' : World} {L : List Res} {rb : Nat} {l : List Int} (S : Sp w0 w L) (hR : RdP w.heap.size w'.heap.size w' rb l 0) (hb : Below w.heap.size w w') : Sp w0 w' (rdZ w.heap.size w'.heap.size rb l 0 :: L) := by
  have M : Sp w w' [rdZ w.heap.size w'.heap.size rb l 0] := ⟨hb, fun r hr => by rw [List.mem_singleton.1 hr]; exact rdZ_ok hR (Nat.le_refl _), List.pairwise_singleton _ _⟩
  exact S.call M
theorem Sp.rdP {w0 w : World} {L : List Res} (S : Sp w0 w L) (i : Nat) {base top rb k : Nat} {l : List Int} (h : L[i]? = some (rdZ base top rb l k)) : RdP base top w rb l k := (S.all _ (List.mem_of_getElem? h)).2.1
theorem Sp.got {w0 w w' : World} {L : List Res} (S : Sp w0 w L) (i : Nat) {base top rb k k' : Nat} {l : List Int} (h : L[i]? = some (rdZ base top rb l k)) (hR : RdP base top w' rb l k') (hF : FrR base top w w') : Sp w0 w' (L.set i (rdZ base top rb l k')) :=
  S.updF i h hF.fr.os hF.fr.tape hF.fr.output hF.fr.size (fun j hj hn => hF.block hj (by have : ¬ (base ≤ j ∧ j < top) := hn; omega)) (rdZ_ok hR (S.all _ (List.mem_of_getElem? h)).1.1) fun _ hg => .inl hg
/-- bytes that were read lie in a row of their own -/
theorem Sp.gotB {w0 w w' : World} {L : List Res} (S : Sp w0 w L) (i : Nat) {base top rb k k' : Nat} {l xs : List Int} {v : Value} (h : L[i]? = some (rdZ base top rb l k)) (hR : RdP base top w' rb l k') (hF : FrR base top w w') (hO : OwnB w.heap.size w' v xs) :
    Sp w0 w' (.row v 5 1 xs.length (bts xs) :: L.set i (rdZ base top rb l k')) := by
  have S2 := S.got i h hR hF
  have hi : i < L.length := (List.getElem?_eq_some_iff.1 h).1
  have hfoot : ∀ s ∈ L.set i (rdZ base top rb l k'), ∀ b, s.foot b → b < w.heap.size := fun s hs b hb => by
    rcases List.mem_or_eq_of_mem_set hs with h1 | rfl
    · exact (Res.ok_lt (S.all s h1) hb).2
    · have h2 := (S.all _ (List.mem_of_getElem? h)).1.2
      exact Nat.lt_of_lt_of_le hb.2 h2
  refine ⟨S2.bel, fun r hr => ?_, List.pairwise_cons.2 ⟨fun s hs b hb hb2 => ?_, S2.sep⟩⟩
  · rcases List.mem_cons.1 hr with rfl | h1
    · exact own_base hO.own S.le
    · exact S2.all r h1
  · have h1 := (World.ownsRow.lt hO.own b hb).1
    have h2 := hfoot s hs b hb2
    omega
theorem Sp.gotS {w0 w w' : World} {L : List Res} (S : Sp w0 w L) (i : Nat) {base top rb k k' : Nat} {l xs : List Int} {v : Value} (h : L[i]? = some (rdZ base top rb l k)) (hR : RdP base top w' rb l k') (hF : FrR base top w w') (hO : OwnB w.heap.size w' v xs) (n : Nat) (hn : xs.length = n) :
    ∃ a c, v = .slice a n c ∧ Sp w0 w' (.row (.slice a n c) 5 1 n (bts xs) :: L.set i (rdZ base top rb l k')) := by
  subst hn
  obtain ⟨a, c, rfl, _⟩ := own_shape hO.own
  exact ⟨a, c, rfl, S.gotB i h hR hF hO⟩
end Go.Proofs.YtaecfcaeopmiaaaDoor
