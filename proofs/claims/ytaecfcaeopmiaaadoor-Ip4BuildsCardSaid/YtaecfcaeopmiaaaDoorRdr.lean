/-
  A reader that the call itself made, read at a place of its bytes; what it changes lies in a range of blocks of its own.
-/
import Derived.Test.YtaecfcaeopmiaaaDoorWr
import Derived.Test.YtaecfcaeopmiaaaDoorBlk
namespace Go.Proofs.YtaecfcaeopmiaaaDoor
open Go.RowKit

/-- the blocks from base up to top have the label 1 -/
def rng (base top : Nat) : Nat → Nat := fun k => if base ≤ k ∧ k < top then 1 else 0
theorem rng_out {base top k : Nat} (h : k < base ∨ top ≤ k) : rng base top k = 0 := by unfold rng; rw [if_neg (by omega)]
theorem rng_in {base top k : Nat} (h1 : base ≤ k) (h2 : k < top) : rng base top k = 1 := by unfold rng; rw [if_pos ⟨h1, h2⟩]
theorem IsR.relabel {ρ ρ' : Nat → Nat} {i : Nat} {w : World} {rb : Nat} {l : List Int} {e : Int} (h : IsR ρ i w rb l e) (hr : ∀ k, k < w.heap.size → ρ k = i → ρ' k = i) : IsR ρ' i w rb l e := by
  obtain ⟨h1, hl, sv, h2, h3, h4⟩ := h
  exact ⟨hr _ (lt_of_block h2) h1, hl, sv, h2, h3, fun hne b hb => hr _ (h3.lt hne hb) (h4 hne b hb)⟩
/-- block rb is a reader of the bytes l that stands at place k; its blocks lie from base up to top -/
structure RdP (base top : Nat) (w : World) (rb : Nat) (l : List Int) (k : Nat) : Prop where
  le : base ≤ top
  tp : top ≤ w.heap.size
  byt : Byt l
  is : IsR (rng base top) 1 w rb (l.drop k) 0
/-- w' is w, but for blocks from base up to top, and new ones -/
structure FrR (base top : Nat) (w w' : World) : Prop where
  fr : FrO (rng base top) 1 w w'
theorem FrR.block {base top k : Nat} {w w' : World} (h : FrR base top w w') (hk : k < w.heap.size) (ho : k < base ∨ top ≤ k) : w'.heap[k]? = w.heap[k]? := h.fr.block k hk (by rw [rng_out ho]; decide)
theorem FrR.below {base top B : Nat} {w w' : World} (h : FrR base top w w') (hB : B ≤ base) (hw : B ≤ w.heap.size) : Below B w w' := ⟨h.fr.os, h.fr.tape, h.fr.output, h.fr.size, fun k hk => h.block (by omega) (.inl (by omega))⟩
theorem RdP.below {base top : Nat} {w w' : World} {rb : Nat} {l : List Int} {k : Nat} (h : RdP base top w rb l k) (hb : Below w.heap.size w w') : RdP base top w' rb l k := ⟨h.le, Nat.le_trans h.tp hb.size, h.byt, h.is.below hb⟩
theorem RdP.stored {base top b : Nat} {w w' : World} {rb : Nat} {l : List Int} {k : Nat} (h : RdP base top w rb l k) (hs : Stored b w w') (hb : b < base ∨ top ≤ b) : RdP base top w' rb l k :=
  ⟨h.le, by rw [hs.size]; exact h.tp, h.byt, h.is.keep (j := 0) ⟨hs.os, hs.tape, hs.output, by rw [hs.size]; exact Nat.le_refl _, fun k _ hk => hs.block k (fun e => hk (by rw [e]; exact rng_out hb))⟩ (by decide)⟩
def RNewP (l : List Int) (w : World) (en : Ending) (w' : World) : Prop := ∃ rb, en = .returned (.pointer (some ⟨rb, 0, none⟩)) ∧ RdP w.heap.size w'.heap.size w' rb l 0 ∧ Below w.heap.size w w'
theorem rnewP (v : Value) (l : List Int) (w : World) (h : Rb w v l) (hl : l.length ≤ 140737488355328) : Calls Tryd.prog 54 #[v] w (RNewP l w) :=
  (newReader_any (fun _ => 0) 1 v l w h hl).mono fun _ _ ⟨rb, he, _, hR, hb⟩ => ⟨rb, he, ⟨hb.size, Nat.le_refl _, h.byt, by
    rw [List.drop_zero]
    refine hR.relabel fun k hk h1 => ?_
    by_cases hlt : k < w.heap.size
    · rw [ext_old hlt] at h1; cases h1
    · exact rng_in (by omega) hk⟩, hb⟩
def RGetP (base top rb : Nat) (l : List Int) (k : Nat) (v : Value) (w : World) (en : Ending) (w' : World) : Prop := en = .returned v ∧ RdP base top w' rb l k ∧ FrR base top w w' ∧ w'.heap.size = w.heap.size
theorem rgetP {base top rb n k : Nat} {l : List Int} {ki : IntKind} {w : World} {f : FuncId} {args : Array Value} (h : RdP base top w rb l k) (hr : k + n ≤ l.length)
    (hc : IsR (rng base top) 1 w rb (l.drop k) 0 → Calls Tryd.prog f args w (RNumPost ki (rng base top) 1 rb (l.drop k) 0 n w)) : Calls Tryd.prog f args w (RGetP base top rb l (k + n) (.int ki (bev ((l.drop k).take n))) w) := by
  refine (hc h.is).mono fun en w' ⟨he, hR, hF, hs⟩ => ?_
  have hlen : n ≤ (l.drop k).length := by simp; omega
  have e1 : takeL (l.drop k) 0 n = (l.drop k).take n := by unfold takeL; rw [if_neg (by omega)]
  have e2 : restL (l.drop k) 0 n = l.drop (k + n) := by unfold restL; rw [if_neg (by omega), List.drop_drop]
  have e3 : takeE (l.drop k) 0 n = 0 := by unfold takeE; rw [if_neg (by omega), if_neg (by omega)]
  rw [e1] at he
  rw [e2, e3] at hR
  exact ⟨he, ⟨h.le, Nat.le_trans h.tp hF.size, h.byt, hR⟩, ⟨hF⟩, hs⟩
theorem bev1 {l : List Int} {k : Nat} (h : k + 1 ≤ l.length) : bev ((l.drop k).take 1) = gt l k := by
  rw [List.drop_eq_getElem_cons (by omega : k < l.length)]
  simp only [List.take_succ_cons, List.take_zero, bev, List.foldl_cons, List.foldl_nil]
  rw [gt_eq (by omega : k < l.length)]
  omega
/-- a number of four bytes -/
def quadL (l : List Int) (k : Nat) : Int := 65536 * wordL l k + wordL l (k + 2)
theorem quadL_bd {l : List Int} (h : Byt l) (k : Nat) : 0 ≤ quadL l k ∧ quadL l k ≤ 4294967295 := by
  have h1 := wordL_bd h k
  have h2 := wordL_bd h (k + 2)
  unfold quadL; omega
theorem bev4 {l : List Int} {k : Nat} (h : k + 4 ≤ l.length) : bev ((l.drop k).take 4) = quadL l k := by
  rw [List.drop_eq_getElem_cons (by omega : k < l.length), List.drop_eq_getElem_cons (by omega : k + 1 < l.length), List.drop_eq_getElem_cons (by omega : k + 1 + 1 < l.length), List.drop_eq_getElem_cons (by omega : k + 1 + 1 + 1 < l.length)]
  simp only [List.take_succ_cons, List.take_zero, bev, List.foldl_cons, List.foldl_nil, quadL, wordL]
  rw [gt_eq (by omega : k < l.length), gt_eq (by omega : k + 1 < l.length), gt_eq (by omega : k + 2 < l.length), gt_eq (by omega : k + 2 + 1 < l.length)]
  simp only [show k + 1 + 1 = k + 2 by omega, show k + 2 + 1 = k + 3 by omega]
  omega
theorem r8P (base top rb : Nat) (l : List Int) (k : Nat) (w : World) (h : RdP base top w rb l k) (hr : k + 1 ≤ l.length) : Calls Tryd.prog 55 #[.pointer (some ⟨rb, 0, none⟩)] w (RGetP base top rb l (k + 1) (.int .u8 (gt l k)) w) := by
  have := rgetP (n := 1) h hr fun hR => rU8_any _ 1 rb _ 0 w hR
  rwa [bev1 hr] at this
theorem r16P (base top rb : Nat) (l : List Int) (k : Nat) (w : World) (h : RdP base top w rb l k) (hr : k + 2 ≤ l.length) : Calls Tryd.prog 56 #[.pointer (some ⟨rb, 0, none⟩)] w (RGetP base top rb l (k + 2) (.int .u16 (wordL l k)) w) := by
  have := rgetP (n := 2) h hr fun hR => rU16_any _ 1 rb _ 0 w hR
  rwa [bev2 hr] at this
def RBytP (base top rb : Nat) (l : List Int) (k n : Nat) (w : World) (en : Ending) (w' : World) : Prop :=
  ∃ v, en = .returned v ∧ OwnB w.heap.size w' v ((l.drop k).take n) ∧ RdP base top w' rb l (k + n) ∧ FrR base top w w'
theorem rbP (base top rb : Nat) (l : List Int) (k n : Nat) (x : Int) (w : World) (h : RdP base top w rb l k) (hx : x = n) (hr : k + n ≤ l.length) : Calls Tryd.prog 57 #[.pointer (some ⟨rb, 0, none⟩), .int .i64 x] w (RBytP base top rb l k n w) := by
  subst hx
  refine (rBytes_any _ 1 rb _ 0 n w h.is).mono fun en w' ⟨v, he, ho, hR, hF⟩ => ?_
  have hlen : n ≤ (l.drop k).length := by simp; omega
  have e1 : askL (l.drop k) 0 n = (l.drop k).take n := by unfold askL takeL; rw [if_neg (by omega), if_neg (by simp; omega)]; simp
  have e2 : askR (l.drop k) 0 n = l.drop (k + n) := by unfold askR restL; rw [if_neg (by omega), if_neg (by simp; omega), List.drop_drop]; simp
  have e3 : askE (l.drop k) 0 n = 0 := by unfold askE takeE; rw [if_neg (by omega), if_neg (by omega), if_neg (by simp; omega)]
  rw [e1] at ho
  rw [e2, e3] at hR
  exact ⟨v, he, ⟨ho, hF.size⟩, ⟨h.le, Nat.le_trans h.tp hF.size, h.byt, hR⟩, ⟨hF⟩⟩
theorem rleftP (base top rb : Nat) (l : List Int) (k : Nat) (w : World) (h : RdP base top w rb l k) : Calls Tryd.prog 58 #[.pointer (some ⟨rb, 0, none⟩)] w fun en w' => en = .returned (.int .i64 ((l.length - k : Nat) : Int)) ∧ w = w' := by
  have := rLeft_any _ 1 rb _ 0 w h.is
  rw [List.length_drop] at this
  exact this.mono fun _ _ ⟨h1, h2⟩ => ⟨h1, h2.symm⟩
end Go.Proofs.YtaecfcaeopmiaaaDoor
