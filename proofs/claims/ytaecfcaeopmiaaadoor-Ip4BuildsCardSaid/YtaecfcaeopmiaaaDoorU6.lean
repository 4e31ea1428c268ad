/-
  package wire's reader: the numbers of 1, 2, 4 bytes, Bytes, Left, Err, End.
-/
import Derived.Test.YtaecfcaeopmiaaaDoorU5
namespace Go.Proofs.YtaecfcaeopmiaaaDoor
open Go.RowKit

theorem bev_takeL {l : List Int} {e : Int} {n : Nat} (hb : Byt l) : 0 ≤ bev (takeL l e n) ∧ bev (takeL l e n) < 256 ^ n := by
  unfold takeL
  split
  · refine ⟨by simp [bev], ?_⟩
    have : (0 : Int) < 256 ^ n := Int.pow_pos (by decide)
    simpa [bev] using this
  · rename_i h
    have hl : ¬ l.length < n := fun h' => h (Or.inr h')
    have := bev_bd (l.take n) (hb.take n)
    rw [show (l.take n).length = n by simp; omega] at this
    exact this
theorem IsR.byt {ρ : Nat → Nat} {i : Nat} {w : World} {rb : Nat} {l : List Int} {e : Int} (h : IsR ρ i w rb l e) : Byt l := h.2.2.choose_spec.2.1.byt

theorem IsR.below {ρ : Nat → Nat} {i : Nat} {w w' : World} {rb : Nat} {l : List Int} {e : Int} (h : IsR ρ i w rb l e) (hb : Below w.heap.size w w') : IsR ρ i w' rb l e := by
  obtain ⟨h1, hl, sv, h2, h3, h4⟩ := h
  exact ⟨h1, hl, sv, by rw [hb.block rb (lt_of_block h2)]; exact h2, h3.below hb, h4⟩
theorem IsR.keep {ρ : Nat → Nat} {i j : Nat} {w w' : World} {rb : Nat} {l : List Int} {e : Int} (h : IsR ρ i w rb l e) (hf : FrO ρ j w w') (hij : i ≠ j) : IsR ρ i w' rb l e := by
  obtain ⟨h1, hl, sv, h2, h3, h4⟩ := h
  exact ⟨h1, hl, sv, by rw [hf.block rb (lt_of_block h2) (by rw [h1]; exact hij)]; exact h2, h3.fr hf h4 hij, h4⟩
theorem IsW.keep {ρ : Nat → Nat} {i j : Nat} {w w' : World} {wb : Nat} {l : List Int} {lim e : Int} (h : IsW ρ i w wb l lim e) (hf : FrO ρ j w w') (hij : i ≠ j) : IsW ρ i w' wb l lim e := by
  obtain ⟨h1, h2, h3, h4, h5, ov, h6, h7, h8⟩ := h
  exact ⟨h1, h2, h3, h4, h5, ov, by rw [hf.block wb (lt_of_block h6) (by rw [h1]; exact hij)]; exact h6, own_move h7 fun b hb hlt => hf.block b hlt (by rw [h8 b hb]; exact hij), h8⟩
theorem IsW.below {ρ : Nat → Nat} {i : Nat} {w w' : World} {wb : Nat} {l : List Int} {lim e : Int} (h : IsW ρ i w wb l lim e) (hb : Below w.heap.size w w') : IsW ρ i w' wb l lim e := by
  obtain ⟨h1, h2, h3, h4, h5, ov, h6, h7, h8⟩ := h
  exact ⟨h1, h2, h3, h4, h5, ov, by rw [hb.block wb (lt_of_block h6)]; exact h6, own_move h7 fun b hb' hlt => hb.block b hlt, h8⟩

theorem rU8_any (ρ : Nat → Nat) (i rb : Nat) (l : List Int) (e : Int) (w : World) (h : IsR ρ i w rb l e) : Calls Tryd.prog 55 #[.pointer (some ⟨rb, 0, none⟩)] w (RNumPost .u8 ρ i rb l e 1 w) := by
  have H := hid h
  have hb := bev_takeL (l := l) (e := e) (n := 1) h.byt
  clear h
  rw [show (256 : Int) ^ 1 = 256 from rfl] at hb
  go_enter Tryd.func55, Tryd.ntmps55
  go_wp2_with (go_at_call 69; refine (rnumber_any ρ i rb l e 1 _ H.out (by omega) (by omega)).mono ?_; rintro en w1 ⟨rfl, hI, hF, hS⟩)
  go_ret
  exact ⟨by first | rfl | (congr 2; omega), hI, hF, hS⟩
theorem rU16_any (ρ : Nat → Nat) (i rb : Nat) (l : List Int) (e : Int) (w : World) (h : IsR ρ i w rb l e) : Calls Tryd.prog 56 #[.pointer (some ⟨rb, 0, none⟩)] w (RNumPost .u16 ρ i rb l e 2 w) := by
  have H := hid h
  have hb := bev_takeL (l := l) (e := e) (n := 2) h.byt
  clear h
  rw [show (256 : Int) ^ 2 = 65536 from rfl] at hb
  go_enter Tryd.func56, Tryd.ntmps56
  go_wp2_with (go_at_call 69; refine (rnumber_any ρ i rb l e 2 _ H.out (by omega) (by omega)).mono ?_; rintro en w1 ⟨rfl, hI, hF, hS⟩)
  go_ret
  exact ⟨by first | rfl | (congr 2; omega), hI, hF, hS⟩
theorem rLeft_any (ρ : Nat → Nat) (i rb : Nat) (l : List Int) (e : Int) (w : World) (h : IsR ρ i w rb l e) :
    Calls Tryd.prog 58 #[.pointer (some ⟨rb, 0, none⟩)] w fun en w' => en = .returned (.int .i64 l.length) ∧ w' = w := by
  obtain ⟨_, _, sv, h2, h3, _⟩ := h
  obtain ⟨a, cap, rfl, _⟩ := h3.open
  obtain ⟨c0, c1, f0, f1⟩ := cells2 h2
  clear h2 h3
  go_enter Tryd.func58, Tryd.ntmps58
  go_wp2
  go_ret
  exact ⟨rfl, rfl⟩
/-- what End tells -/
def endE (l : List Int) (e : Int) : Int := if e = 0 ∧ 0 < l.length then 21 else e
/-- the error, what is told and what is left, of any number of bytes asked for -/
def askE (l : List Int) (e n : Int) : Int := if n < 0 then (if e = 0 then 1 else e) else takeE l e n.toNat
def askL (l : List Int) (e n : Int) : List Int := if n < 0 then [] else takeL l e n.toNat
def askR (l : List Int) (e n : Int) : List Int := if n < 0 then l else restL l e n.toNat
def RBytesPost (ρ : Nat → Nat) (i rb : Nat) (l : List Int) (e n : Int) (w : World) (en : Ending) (w' : World) : Prop :=
  ∃ v, en = .returned v ∧ w'.ownsRow w.heap.size 5 1 v (askL l e n).length (bts (askL l e n)) ∧ IsR ρ i w' rb (askR l e n) (askE l e n) ∧ FrO ρ i w w'
theorem rBytes_any (ρ : Nat → Nat) (i rb : Nat) (l : List Int) (e n : Int) (w : World) (h : IsR ρ i w rb l e) :
    Calls Tryd.prog 57 #[.pointer (some ⟨rb, 0, none⟩), .int .i64 n] w (RBytesPost ρ i rb l e n w) := by
  have H := hid h
  by_cases hn : n < 0
  · obtain ⟨h1, hl, sv, h2, h3, h4⟩ := h
    obtain ⟨a, cap, rfl, _⟩ := h3.open
    obtain ⟨c0, c1, f0, f1⟩ := cells2 h2
    have e2 : askL l e n = [] := if_pos hn
    have e3 : askR l e n = l := if_pos hn
    have E2 := hid e2
    have E3 := hid e3
    have H2 := hid h2
    have H3 := hid h3
    have H1 := hid h1
    have H4 := hid h4
    clear e2 e3 h2 h3 h1 h4
    by_cases he : e = 0
    · subst he
      have e1 : askE l 0 n = 1 := by simp [askE, hn]
      have E1 := hid e1
      clear e1
      go_enter Tryd.func57, Tryd.ntmps57
      go_wp2
      go_ret
      refine ⟨_, rfl, by rw [E2.out]; exact World.ownsRow_nil _ _ _ _, ?_, FrO.setCell H1.out _⟩
      rw [E1.out, E3.out]
      exact ⟨H1.out, hl, _, heap_store H2.out _, H3.out.rstore H2.out (fun k n' h => by cases h), H4.out⟩
    · have e1 : askE l e n = e := by simp [askE, hn, he]
      have he' : (e == 0) = false := by simpa using he
      have E1 := hid e1
      clear e1 he
      go_enter Tryd.func57, Tryd.ntmps57
      go_wp2
      go_ret
      refine ⟨_, rfl, by rw [E2.out]; exact World.ownsRow_nil _ _ _ _, ?_, FrO.refl _ _ _⟩
      rw [E1.out, E3.out]
      exact H.out
  · obtain ⟨m, rfl⟩ := Int.eq_ofNat_of_zero_le (by omega : 0 ≤ n)
    have e1 : askE l e m = takeE l e m := by rw [askE, if_neg hn, Int.toNat_natCast]
    have e2 : askL l e m = takeL l e m := by rw [askL, if_neg hn, Int.toNat_natCast]
    have e3 : askR l e m = restL l e m := by rw [askR, if_neg hn, Int.toNat_natCast]
    have E1 := hid e1
    have E2 := hid e2
    have E3 := hid e3
    have hll : (takeL l e m).length ≤ 140737488355328 := by
      have := h.2.1
      unfold takeL
      split
      · simp
      · simp; omega
    clear e1 e2 e3 h
    go_enter Tryd.func57, Tryd.ntmps57
    go_wp2_with fail
    refine (take_any ρ i rb l e m _ H.out).mono ?_
    rintro en w1 ⟨v, rfl, hR, hI, hF, hS⟩
    have HR := hid hR
    have HI := hid hI
    have HF := hid hF
    have HS := hid hS
    clear hR hI hF hS
    go_wp2_with (go_at_call 53; refine (clone_any v (takeL l e m) _ HR.out hll).mono ?_; rintro en w2 ⟨v2, rfl, ho, hb⟩)
    go_ret
    refine ⟨v2, rfl, ?_, ?_, HF.out.trans' (FrO.of_below hb)⟩
    · rw [E2.out, ← HS.out]; exact ho
    · rw [E1.out, E3.out]
      exact HI.out.below hb
end Go.Proofs.YtaecfcaeopmiaaaDoor
