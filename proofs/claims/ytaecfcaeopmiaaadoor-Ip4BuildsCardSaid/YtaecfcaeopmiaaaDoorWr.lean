/-
  A writer that the call itself made: contracts with the frame in one word.
-/
import Derived.Test.YtaecfcaeopmiaaaDoorU6
import Derived.Test.YtaecfcaeopmiaaaDoorCat
namespace Go.Proofs.YtaecfcaeopmiaaaDoor
open Go.RowKit

/-- block wb is a writer of the call's own (its blocks lie among those from base on); it wrote L, has no error, and may write lim bytes -/
def WrB (base : Nat) (w : World) (wb : Nat) (L : List Int) (lim : Int) : Prop := ∃ ρ : Nat → Nat, (∀ k, k < base → ρ k = 0) ∧ base ≤ w.heap.size ∧ IsW ρ 1 w wb L lim 0
theorem WrB.below {base : Nat} {w w' : World} {wb : Nat} {L : List Int} {lim : Int} (h : WrB base w wb L lim) (hb : Below w.heap.size w w') : WrB base w' wb L lim := by
  obtain ⟨ρ, h1, h2, h3⟩ := h
  exact ⟨ρ, h1, Nat.le_trans h2 hb.size, h3.below hb⟩
theorem WrB.byt {base : Nat} {w : World} {wb : Nat} {L : List Int} {lim : Int} (h : WrB base w wb L lim) : Byt L := by obtain ⟨_, _, _, h⟩ := h; exact h.2.1
theorem WrB.len {base : Nat} {w : World} {wb : Nat} {L : List Int} {lim : Int} (h : WrB base w wb L lim) : (L.length : Int) ≤ lim := by obtain ⟨_, _, _, h⟩ := h; exact h.2.2.2.2.1
theorem frO_below {ρ : Nat → Nat} {base : Nat} {w w' : World} (hf : FrO ρ 1 w w') (hb : base ≤ w.heap.size) (hl : ∀ k, k < base → ρ k = 0) : Below base w w' := hf.below hb fun k hk => by rw [hl k hk]; decide
theorem wrB_step {base : Nat} {ρ : Nat → Nat} {w w' : World} {wb : Nat} {L : List Int} {lim : Int} (hl : ∀ k, k < base → ρ k = 0) (hb : base ≤ w.heap.size) (hW : IsW (ext ρ w.heap.size 1) 1 w' wb L lim 0) (hf : FrO ρ 1 w w') : WrB base w' wb L lim :=
  ⟨ext ρ w.heap.size 1, fun k hk => by rw [ext_old (Nat.lt_of_lt_of_le hk hb)]; exact hl k hk, Nat.le_trans hb hf.size, hW⟩
def WNewPost (lim : Int) (w : World) (en : Ending) (w' : World) : Prop := ∃ wb, en = .returned (.pointer (some ⟨wb, 0, none⟩)) ∧ WrB w.heap.size w' wb [] lim ∧ Below w.heap.size w w'
theorem wnew_own (n : Int) (w : World) (h0 : 0 ≤ n) (h1 : n ≤ 65575) : Calls Tryd.prog 42 #[.int .i64 n] w (WNewPost n w) :=
  (newWriter_any (fun _ => 0) 1 n w).mono fun en w' ⟨he, hW, hb⟩ => ⟨_, he, ⟨_, fun k hk => ext_old hk, hb.size, by
    have e : limOf n = n := by unfold limOf; rw [if_neg (by omega), if_neg (by omega)]
    rw [e] at hW; exact hW⟩, hb⟩
def WPutPost (base : Nat) (wb : Nat) (L : List Int) (lim : Int) (w : World) (en : Ending) (w' : World) : Prop := en = .returned (.tuple #[]) ∧ WrB base w' wb L lim ∧ Below base w w'
theorem wput_own {base wb : Nat} {L m : List Int} {lim : Int} {w : World} {f : FuncId} {args : Array Value} (h : WrB base w wb L lim) (hr : (L.length : Int) + m.length ≤ lim)
    (hc : ∀ ρ, IsW ρ 1 w wb L lim 0 → (∀ k, k < base → ρ k = 0) → Calls Tryd.prog f args w (PutPost ρ 1 wb L lim 0 m w)) : Calls Tryd.prog f args w (WPutPost base wb (L ++ m) lim w) := by
  obtain ⟨ρ, h1, h2, h3⟩ := h
  refine (hc ρ h3 h1).mono fun en w' ⟨he, hW, hF⟩ => ?_
  have hE : roomE L.length lim 0 m.length = 0 := by unfold roomE; rw [if_neg (by omega)]
  rw [hE, if_pos rfl] at hW
  exact ⟨he, wrB_step h1 h2 hW hF, frO_below hF h2 h1⟩
theorem w8_own (base wb : Nat) (L : List Int) (lim v : Int) (w : World) (h : WrB base w wb L lim) (hv0 : 0 ≤ v) (hv1 : v ≤ 255) (hr : (L.length : Int) + 1 ≤ lim) :
    Calls Tryd.prog 43 #[.pointer (some ⟨wb, 0, none⟩), .int .u8 v] w (WPutPost base wb (L ++ be 1 v) lim w) :=
  wput_own h (by rw [be_length]; exact hr) fun ρ hW _ => wU8_any ρ 1 wb L lim 0 v w hW hv0 hv1
theorem w16_own (base wb : Nat) (L : List Int) (lim v : Int) (w : World) (h : WrB base w wb L lim) (hv0 : 0 ≤ v) (hv1 : v ≤ 65535) (hr : (L.length : Int) + 2 ≤ lim) :
    Calls Tryd.prog 44 #[.pointer (some ⟨wb, 0, none⟩), .int .u16 v] w (WPutPost base wb (L ++ be 2 v) lim w) :=
  wput_own h (by rw [be_length]; exact hr) fun ρ hW _ => wU16_any ρ 1 wb L lim 0 v w hW hv0 hv1
theorem wBytes_own (base wb : Nat) (L m : List Int) (lim : Int) (bv : Value) (w : World) (h : WrB base w wb L lim) (hb : Rb w bv m) (hl : m ≠ [] → ∀ b, bv.ownBlock = some b → b < base) (hr : (L.length : Int) + m.length ≤ lim) (hm : m.length ≤ 140737488355328) :
    Calls Tryd.prog 46 #[.pointer (some ⟨wb, 0, none⟩), bv] w (WPutPost base wb (L ++ m) lim w) :=
  wput_own h hr fun ρ hW h0 => wBytes_any ρ 1 0 wb L m lim 0 bv w hW hb (fun hne b hb => h0 b (hl hne b hb)) (by decide) hm
theorem wPut16_own (base wb : Nat) (L : List Int) (lim at_ v : Int) (w : World) (h : WrB base w wb L lim) (ha0 : 0 ≤ at_) (ha1 : at_ + 2 ≤ L.length) (hv0 : 0 ≤ v) (hv1 : v ≤ 65535) :
    Calls Tryd.prog 48 #[.pointer (some ⟨wb, 0, none⟩), .int .i64 at_, .int .u16 v] w (WPutPost base wb ((L.set at_.toNat (v / 256)).set (at_.toNat + 1) (v % 256)) lim w) := by
  obtain ⟨ρ, h1, h2, h3⟩ := h
  have hlim := h3.2.2.2.2.1
  have hl2 := h3.2.2.2.1
  refine (wPut16_any ρ 1 wb L lim 0 at_ v w h3 (by omega) (by omega) hv0 hv1).mono fun en w' ⟨he, hW, hF⟩ => ?_
  have e1 : put16L L 0 at_ v = (L.set at_.toNat (v / 256)).set (at_.toNat + 1) (v % 256) := by unfold put16L; rw [if_neg (by omega)]
  have e2 : put16E L 0 at_ = 0 := by unfold put16E; rw [if_neg (by omega), if_neg (by omega)]
  rw [e1, e2] at hW
  exact ⟨he, wrB_step h1 h2 hW hF, frO_below hF h2 h1⟩
def WOutPost (L : List Int) (w : World) (en : Ending) (w' : World) : Prop := ∃ v, en = .returned (.tuple #[v, .int .i64 0]) ∧ w'.ownsRow w.heap.size 5 1 v L.length (bts L) ∧ Below w.heap.size w w'
theorem wOut_own (base wb : Nat) (L : List Int) (lim : Int) (w : World) (h : WrB base w wb L lim) : Calls Tryd.prog 47 #[.pointer (some ⟨wb, 0, none⟩)] w (WOutPost L w) := by
  obtain ⟨ρ, h1, h2, h3⟩ := h
  exact (wOut_any ρ 1 wb L lim 0 w h3).mono fun en w' ⟨v, he, ho, hb⟩ => ⟨v, he, ho, hb⟩

/-! ### a reader that the call itself made -/
def RdB (base : Nat) (w : World) (rb : Nat) (l : List Int) : Prop := ∃ ρ : Nat → Nat, (∀ k, k < base → ρ k = 0) ∧ base ≤ w.heap.size ∧ IsR ρ 1 w rb l 0

theorem RdB.below {base : Nat} {w w' : World} {rb : Nat} {l : List Int} (h : RdB base w rb l) (hb : Below w.heap.size w w') : RdB base w' rb l := by
  obtain ⟨ρ, h1, h2, h3⟩ := h
  exact ⟨ρ, h1, Nat.le_trans h2 hb.size, h3.below hb⟩
theorem RdB.byt {base : Nat} {w : World} {rb : Nat} {l : List Int} (h : RdB base w rb l) : Byt l := by obtain ⟨_, _, _, h⟩ := h; exact h.byt
def RNewPost (l : List Int) (w : World) (en : Ending) (w' : World) : Prop := ∃ rb, en = .returned (.pointer (some ⟨rb, 0, none⟩)) ∧ RdB w.heap.size w' rb l ∧ Below w.heap.size w w'
theorem rnew_own (v : Value) (l : List Int) (w : World) (h : Rb w v l) (hl : l.length ≤ 140737488355328) : Calls Tryd.prog 54 #[v] w (RNewPost l w) :=
  (newReader_any (fun _ => 0) 1 v l w h hl).mono fun _ _ ⟨rb, he, _, hR, hb⟩ => ⟨rb, he, ⟨_, fun _ hk => ext_old hk, hb.size, hR⟩, hb⟩
def RGetPost (base rb : Nat) (l : List Int) (v : Value) (w : World) (en : Ending) (w' : World) : Prop := en = .returned v ∧ RdB base w' rb l ∧ Below base w w'
theorem rget_own {base rb n : Nat} {l : List Int} {k : IntKind} {w : World} {f : FuncId} {args : Array Value} (h : RdB base w rb l) (hr : n ≤ l.length)
    (hc : ∀ ρ, IsR ρ 1 w rb l 0 → Calls Tryd.prog f args w (RNumPost k ρ 1 rb l 0 n w)) : Calls Tryd.prog f args w (RGetPost base rb (l.drop n) (.int k (bev (l.take n))) w) := by
  obtain ⟨ρ, h1, h2, h3⟩ := h
  refine (hc ρ h3).mono fun en w' ⟨he, hR, hF, _⟩ => ?_
  have e1 : takeL l 0 n = l.take n := by unfold takeL; rw [if_neg (by omega)]
  have e2 : restL l 0 n = l.drop n := by unfold restL; rw [if_neg (by omega)]
  have e3 : takeE l 0 n = 0 := by unfold takeE; rw [if_neg (by omega), if_neg (by omega)]
  rw [e1] at he
  rw [e2, e3] at hR
  exact ⟨he, ⟨ρ, h1, Nat.le_trans h2 hF.size, hR⟩, frO_below hF h2 h1⟩
theorem r8_own (base rb : Nat) (l : List Int) (w : World) (h : RdB base w rb l) (hr : 1 ≤ l.length) : Calls Tryd.prog 55 #[.pointer (some ⟨rb, 0, none⟩)] w (RGetPost base rb (l.drop 1) (.int .u8 (bev (l.take 1))) w) :=
  rget_own h hr fun ρ hR => rU8_any ρ 1 rb l 0 w hR
theorem r16_own (base rb : Nat) (l : List Int) (w : World) (h : RdB base w rb l) (hr : 2 ≤ l.length) : Calls Tryd.prog 56 #[.pointer (some ⟨rb, 0, none⟩)] w (RGetPost base rb (l.drop 2) (.int .u16 (bev (l.take 2))) w) :=
  rget_own h hr fun ρ hR => rU16_any ρ 1 rb l 0 w hR
/-- a number of two bytes that stands in bytes -/
def wordL (l : List Int) (k : Nat) : Int := 256 * gt l k + gt l (k + 1)
theorem wordL_bd {l : List Int} (h : Byt l) (k : Nat) : 0 ≤ wordL l k ∧ wordL l k ≤ 65535 := by
  have h1 := h.bd k
  have h2 := h.bd (k + 1)
  unfold wordL; omega
theorem bev2 {l : List Int} {k : Nat} (h : k + 2 ≤ l.length) : bev ((l.drop k).take 2) = wordL l k := by
  rw [List.drop_eq_getElem_cons (by omega : k < l.length), List.drop_eq_getElem_cons (by omega : k + 1 < l.length)]
  simp only [List.take_succ_cons, List.take_zero, bev, List.foldl_cons, List.foldl_nil, wordL]
  rw [gt_eq (by omega : k < l.length), gt_eq (by omega : k + 1 < l.length)]
  omega

end Go.Proofs.YtaecfcaeopmiaaaDoor
