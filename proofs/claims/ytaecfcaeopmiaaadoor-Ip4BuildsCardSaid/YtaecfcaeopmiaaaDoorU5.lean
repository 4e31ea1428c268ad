/-
  The reader of package wire: what its block holds, and what each of its methods does to it.
-/
import Derived.Test.YtaecfcaeopmiaaaDoorU4
namespace Go.Proofs.YtaecfcaeopmiaaaDoor
open Go.RowKit

/-- block rb is a reader that has still to read l, and has the error e; its blocks have the label i -/
def IsR (ρ : Nat → Nat) (i : Nat) (w : World) (rb : Nat) (l : List Int) (e : Int) : Prop :=
  ρ rb = i ∧ l.length ≤ 140737488355328 ∧ ∃ sv, w.heap[rb]? = some (.cells #[sv, .int .i64 e] 96 (0, 0)) ∧ Rb w sv l ∧ (l ≠ [] → Lab ρ i sv)
theorem IsR.same {ρ : Nat → Nat} {i : Nat} {w w' : World} {rb : Nat} {l : List Int} {e : Int} (h : IsR ρ i w rb l e) (hs : Same w w') : IsR ρ i w' rb l e := by
  obtain ⟨h1, hl, sv, h2, h3, h4⟩ := h
  exact ⟨h1, hl, sv, by rw [hs.heap]; exact h2, h3.same hs, h4⟩
theorem IsR.other {ρ : Nat → Nat} {i j j' : Nat} {w w' : World} {rb : Nat} {l : List Int} {e : Int} (h : IsR ρ i w rb l e) (hf : FrO ρ j w w') (hij : i ≠ j) : IsR (ext ρ w.heap.size j') i w' rb l e := by
  obtain ⟨h1, hl, sv, h2, h3, h4⟩ := h
  have hw := lt_of_block h2
  refine ⟨by rw [ext_old hw]; exact h1, hl, sv, ?_, h3.fr hf h4 hij, fun hn b hb => ?_⟩
  · rw [hf.block rb hw (by rw [h1]; exact hij)]; exact h2
  · rw [ext_old (h3.lt hn hb)]; exact h4 hn b hb
theorem IsR.relab {ρ ρ' : Nat → Nat} {i : Nat} {w : World} {rb : Nat} {l : List Int} {e : Int} (h : IsR ρ i w rb l e) (hr : ∀ k, k < w.heap.size → ρ' k = ρ k) : IsR ρ' i w rb l e := by
  obtain ⟨h1, hl, sv, h2, h3, h4⟩ := h
  exact ⟨by rw [hr _ (lt_of_block h2)]; exact h1, hl, sv, h2, h3, fun hn b hb => by rw [hr _ (h3.lt hn hb)]; exact h4 hn b hb⟩
/-- a cell of what is still to be read is none of the reader's own block -/
theorem rcell_ne {w : World} {rb b o : Nat} {sv : Value} {e x : Int} (h2 : w.heap[rb]? = some (.cells #[sv, .int .i64 e] 96 (0, 0))) (hs : ∀ k n, sv ≠ .int k n) (hc : w.cell? ⟨b, o, none⟩ = some (.int .u8 x)) : b ≠ rb := by
  intro eq
  subst eq
  simp only [World.cell?, h2] at hc
  match o, hc with
  | 0, hc => simp at hc; exact hs _ _ hc
  | 1, hc => simp at hc
  | n + 2, hc => simp at hc
/-- a store into the reader's own block leaves what is still to be read -/
theorem Rb.rstore {w : World} {rb o : Nat} {sv v u : Value} {e : Int} {l : List Int} (h2 : w.heap[rb]? = some (.cells #[sv, .int .i64 e] 96 (0, 0))) (hs : ∀ k n, sv ≠ .int k n) (h : Rb w v l) : Rb (w.setCell ⟨rb, o, none⟩ u) v l :=
  h.move fun hn b hb _ => Below.heap_setCell _ _ _ _ (by
    obtain ⟨a, cap, rfl, _, _, h4⟩ := h.open
    rcases h4 with h0 | ⟨b', off, rfl, hc⟩
    · exact absurd (List.length_eq_zero_iff.1 h0) hn
    · simp only [Value.ownBlock, Option.some.injEq] at hb
      subst hb
      exact rcell_ne h2 hs (hc 0 (List.length_pos_iff.2 hn)))

/-! ### a new reader -/
def NewRPost (ρ : Nat → Nat) (i : Nat) (l : List Int) (w : World) (en : Ending) (w' : World) : Prop :=
  ∃ rb, en = .returned (.pointer (some ⟨rb, 0, none⟩)) ∧ w.heap.size ≤ rb ∧ IsR (ext ρ w.heap.size i) i w' rb l 0 ∧ Below w.heap.size w w'
theorem newReader_any (ρ : Nat → Nat) (i : Nat) (v : Value) (l : List Int) (w : World) (h : Rb w v l) (hl : l.length ≤ 140737488355328) : Calls Tryd.prog 54 #[v] w (NewRPost ρ i l w) := by
  have HB := hid h
  clear h
  go_enter Tryd.func54, Tryd.ntmps54
  go_wp2_with fail
  refine (clone_any v l _ HB.out hl).mono ?_
  rintro en w1 ⟨v1, rfl, ho, hb⟩
  obtain ⟨a1, c1, rfl, _⟩ := own_shape ho
  have HO := hid ho
  clear ho
  go_wp2
  go_ret
  have hR := Rb.of_own HB.out.byt HO.out
  refine ⟨w1.heap.size, rfl, hb.size, ⟨ext_new hb.size, hl, _, heap_alloc_new w1 _, hR.below ((Below.refl _ _).alloc (Nat.le_refl _) _), fun _ b hb' => ext_new (HO.out.lt b hb').1⟩, hb.alloc hb.size _⟩
/-! ### take -/
/-- what taking n bytes gives: the bytes, what is left, the error -/
def takeL (l : List Int) (e : Int) (n : Nat) : List Int := if e ≠ 0 ∨ l.length < n then [] else l.take n
def restL (l : List Int) (e : Int) (n : Nat) : List Int := if e ≠ 0 ∨ l.length < n then l else l.drop n
def takeE (l : List Int) (e : Int) (n : Nat) : Int := if e ≠ 0 then e else if l.length < n then 20 else 0
def TakePost (ρ : Nat → Nat) (i rb : Nat) (l : List Int) (e : Int) (n : Nat) (w : World) (en : Ending) (w' : World) : Prop :=
  ∃ v, en = .returned (.tuple #[v, .bool (decide (takeE l e n = 0))]) ∧ Rb w' v (takeL l e n) ∧ IsR ρ i w' rb (restL l e n) (takeE l e n) ∧ FrO ρ i w w' ∧ w'.heap.size = w.heap.size

set_option maxHeartbeats 800000 in
theorem take_any (ρ : Nat → Nat) (i rb : Nat) (l : List Int) (e : Int) (n : Nat) (w : World) (h : IsR ρ i w rb l e) :
    Calls Tryd.prog 70 #[.pointer (some ⟨rb, 0, none⟩), .int .i64 n] w (TakePost ρ i rb l e n w) := by
  have H := hid h
  obtain ⟨i0, hi, _, hz1, _⟩ := info_parts Tryd.info5
  obtain ⟨h1, hl, sv, h2, h3, h4⟩ := h
  have H3 := hid h3
  obtain ⟨_, a, cap, rfl, hc, hm, hz⟩ := h3
  clear hz
  obtain ⟨c0, c1, f0, f1⟩ := cells2 h2
  have H1 := hid h1
  have H2 := hid h2
  have H4 := hid h4
  clear h1 h2 h4
  unfold maxLen at hm
  have hne : ∀ k n', (Value.slice a l.length cap) ≠ .int k n' := fun k n' h => by cases h
  by_cases he : e = 0
  · subst he
    by_cases hs : l.length < n
    · have hs' : (l.length : Int) < n := by omega
      go_enter Tryd.func70, Tryd.ntmps70
      go_wp2
      go_ret2
      have e1 : takeE l 0 n = 20 := by simp [takeE, hs]
      have e2 : takeL l 0 n = [] := by simp [takeL, hs]
      have e3 : restL l 0 n = l := by simp [restL, hs]
      refine ⟨_, by rw [e1]; rfl, by rw [e2]; exact Rb.nil _, ?_, FrO.setCell H1.out _, by simp [World.setCell]⟩
      rw [e1, e3]
      exact ⟨H1.out, hl, _, heap_store H2.out _, H3.out.rstore H2.out hne, H4.out⟩
    · have hs' : (n : Int) ≤ l.length := by omega
      have hsl := fun W => run_slice_l_sub (P := Tryd.prog) 22 5 Tryd.underlying22 hi hz1 a l.length cap .i64 n n rfl (by omega) W
      go_enter Tryd.func70, Tryd.ntmps70
      go_wp2
      go_ret2
      have e1 : takeE l 0 n = 0 := by simp [takeE, hs]
      have e2 : takeL l 0 n = l.take n := by simp [takeL, hs]
      have e3 : restL l 0 n = l.drop n := by simp [restL, hs]
      refine ⟨_, by rw [e1]; rfl, ?_, ?_, FrO.setCell H1.out _, by simp [World.setCell]⟩
      · rw [e2]; exact (H3.out.front n (by omega)).rstore H2.out hne
      · rw [e1, e3]
        refine ⟨H1.out, by simp; omega, _, heap_store H2.out _, ?_, fun hn b hb => H4.out (fun hl0 => hn (by rw [hl0]; simp)) b (subA_block hb)⟩
        have := (H3.out.back n (by omega)).rstore H2.out hne (o := 0) (u := .slice (subA a n cap) (l.length - n) (cap - n))
        exact this
  · have he' : (e != 0) = true := by simpa using he
    have HE := hid he
    clear he hne
    go_enter Tryd.func70, Tryd.ntmps70
    go_wp2
    go_ret2
    have he := HE.out
    have e1 : takeE l e n = e := by simp [takeE, he]
    have e2 : takeL l e n = [] := by simp [takeL, he]
    have e3 : restL l e n = l := by simp [restL, he]
    refine ⟨.slice none 0 0, by rw [e1]; simp [he], by rw [e2]; exact Rb.nil _, ?_, FrO.refl _ _ _, rfl⟩
    rw [e1, e3]
    exact H.out
theorem take_yes (ρ : Nat → Nat) (i rb : Nat) (l : List Int) (n : Nat) (w : World) (h : IsR ρ i w rb l 0) (hn : n ≤ l.length) :
    Calls Tryd.prog 70 #[.pointer (some ⟨rb, 0, none⟩), .int .i64 n] w fun en w' =>
      ∃ v, en = .returned (.tuple #[v, .bool true]) ∧ Rb w' v (l.take n) ∧ IsR ρ i w' rb (l.drop n) 0 ∧ FrO ρ i w w' ∧ w'.heap.size = w.heap.size :=
  (take_any ρ i rb l 0 n w h).mono fun en w' hp => by
    obtain ⟨v, h1, h2, h3, h4, h5⟩ := hp
    have e1 : takeE l 0 n = 0 := by simp [takeE]; omega
    have e2 : takeL l 0 n = l.take n := by simp [takeL]; omega
    have e3 : restL l 0 n = l.drop n := by simp [restL]; omega
    rw [e1] at h1 h3
    rw [e2] at h2
    rw [e3] at h3
    exact ⟨v, h1, h2, h3, h4, h5⟩
theorem take_no (ρ : Nat → Nat) (i rb : Nat) (l : List Int) (e : Int) (n : Nat) (w : World) (h : IsR ρ i w rb l e) (hn : takeE l e n ≠ 0) :
    Calls Tryd.prog 70 #[.pointer (some ⟨rb, 0, none⟩), .int .i64 n] w fun en w' =>
      ∃ v, en = .returned (.tuple #[v, .bool false]) ∧ Rb w' v [] ∧ IsR ρ i w' rb l (takeE l e n) ∧ FrO ρ i w w' ∧ w'.heap.size = w.heap.size :=
  (take_any ρ i rb l e n w h).mono fun en w' hp => by
    obtain ⟨v, h1, h2, h3, h4, h5⟩ := hp
    have hc : e ≠ 0 ∨ l.length < n := by
      unfold takeE at hn
      by_cases he : e = 0
      · right
        rw [if_neg (by simpa using he)] at hn
        by_cases hl : l.length < n
        · exact hl
        · rw [if_neg hl] at hn; exact absurd rfl hn
      · exact Or.inl he
    have e2 : takeL l e n = [] := if_pos hc
    have e3 : restL l e n = l := if_pos hc
    rw [e2] at h2
    rw [e3] at h3
    exact ⟨v, by rw [h1]; simp [hn], h2, h3, h4, h5⟩
/-- the number that bytes make, the highest first -/
def bev (l : List Int) : Int := l.foldl (fun v c => v * 256 + c) 0
theorem bev_snoc (l : List Int) (c : Int) : bev (l ++ [c]) = bev l * 256 + c := by simp [bev]
theorem bev_bd (l : List Int) (h : Byt l) : 0 ≤ bev l ∧ bev l < 256 ^ l.length := by
  have key : ∀ n (l : List Int), l.length = n → Byt l → 0 ≤ bev l ∧ bev l < 256 ^ l.length := by
    intro n
    induction n with
    | zero => intro l hl _; rw [List.length_eq_zero_iff.1 hl]; exact ⟨by simp [bev], by simp [bev]⟩
    | succ n ih =>
      intro l hl hb
      rcases List.eq_nil_or_concat l with rfl | ⟨m, c, rfl⟩
      · simp at hl
      · rw [List.concat_eq_append] at hl hb ⊢
        have hm : m.length = n := by simpa using hl
        have hbm : Byt m := fun x hx => hb x (List.mem_append_left _ hx)
        have hc := hb c (by simp)
        obtain ⟨i1, i2⟩ := ih m hm hbm
        rw [bev_snoc]
        refine ⟨by omega, ?_⟩
        rw [List.length_append, Int.pow_add]
        simp only [List.length_singleton]
        omega
  exact key l.length l rfl h
theorem or_byte (y x : Nat) (hx : x < 256) : y * 256 ||| x = y * 256 + x := by
  have := Nat.shiftLeft_add_eq_or_of_lt (i := 8) (show x < 2 ^ 8 by omega) y
  rw [Nat.shiftLeft_eq] at this
  exact this.symm
theorem u32_or_byte (y x : Int) (hy0 : 0 ≤ y) (hy : y < 16777216) (hx0 : 0 ≤ x) (hx : x ≤ 255) : bits .or .u32 (y * 256) x = y * 256 + x := by
  rw [u32_or _ _ (by omega) (by omega) hx0 (by omega)]
  obtain ⟨Y, rfl⟩ := Int.eq_ofNat_of_zero_le hy0
  obtain ⟨X, rfl⟩ := Int.eq_ofNat_of_zero_le hx0
  rw [show ((Y : Int) * 256).toNat = Y * 256 by omega, Int.toNat_natCast, or_byte Y X (by omega)]
  omega
/-- what reading a number of n bytes leaves -/
def RNumPost (k : IntKind) (ρ : Nat → Nat) (i rb : Nat) (l : List Int) (e : Int) (n : Nat) (w : World) (en : Ending) (w' : World) : Prop :=
  en = .returned (.int k (bev (takeL l e n))) ∧ IsR ρ i w' rb (restL l e n) (takeE l e n) ∧ FrO ρ i w w' ∧ w'.heap.size = w.heap.size
def BevRel (m : List Int) (n : Nat) (v i : Value) : Prop := ∃ k : Nat, k ≤ n ∧ i = .int .i64 k ∧ v = .int .u32 (bev (m.take k))
set_option maxHeartbeats 800000 in
theorem rnumber_any (ρ : Nat → Nat) (i rb : Nat) (l : List Int) (e : Int) (n : Nat) (w : World) (h : IsR ρ i w rb l e) (hn0 : 1 ≤ n) (hn1 : n ≤ 4) :
    Calls Tryd.prog 69 #[.pointer (some ⟨rb, 0, none⟩), .int .i64 n] w (RNumPost .u32 ρ i rb l e n w) := by
  have H := hid h
  clear h
  by_cases hE : takeE l e n = 0
  · have hE0 : e = 0 ∧ n ≤ l.length := by
      unfold takeE at hE
      split at hE
      · rename_i h0; exact absurd hE h0
      · rename_i h0
        split at hE
        · cases hE
        · exact ⟨by simpa using h0, by omega⟩
    obtain ⟨rfl, hnl⟩ := hE0
    have e2 : takeL l 0 n = l.take n := by simp [takeL]; omega
    have e3 : restL l 0 n = l.drop n := by simp [restL]; omega
    have HE := hid hE
    have E2 := hid e2
    have E3 := hid e3
    clear hE e2 e3
    go_enter Tryd.func69, Tryd.ntmps69
    go_wp2_with fail
    refine (take_yes ρ i rb l n w H.out hnl).mono ?_
    rintro en w1 ⟨v, rfl, hR, hI, hF, hS⟩
    have hlen : (l.take n).length = n := by simp; omega
    have HR := hid hR
    obtain ⟨a, cap, rfl, _, _, h4⟩ := hR.open
    rw [hlen] at h4
    rcases h4 with h0 | ⟨b, off, rfl, hc⟩
    · omega
    have HL := hid hlen
    have HI := hid hI
    have HF := hid hF
    have HS := hid hS
    have hbd := hid HR.out.byt
    have HC := hid hc
    clear hlen hI hF hS hR hc
    go_wp2
    go_loop [7, 9, 20] (fun v _ i => BevRel (l.take n) n v i) (fun _ _ i => n - (intOf i).toNat)
    case atStart => exact ⟨0, Nat.zero_le _, rfl, by simp [bev]⟩
    case round =>
      obtain ⟨k, hk, rfl, rfl⟩ := hrel
      by_cases hlt : k < n
      · have hcell := HC.out k hlt
        have hg := hbd.out.bd k
        have hbv := bev_bd ((l.take n).take k) (hbd.out.take k)
        have hts := hid (take_snoc (l := l.take n) (k := k) (by rw [HL.out]; exact hlt))
        rw [show ((l.take n).take k).length = k by rw [List.length_take, HL.out]; omega] at hbv
        have hbv1 : bev ((l.take n).take k) < 16777216 := by
          have h3 : k ≤ 3 := by omega
          have h4 := hbv.2
          obtain rfl | rfl | rfl | rfl : k = 0 ∨ k = 1 ∨ k = 2 ∨ k = 3 := by omega
          all_goals (simp at h4 ⊢; try omega)
        have hbv0 := hbv.1
        clear hbv
        generalize hgg : gt (l.take n) k = x at *
        generalize hvv : bev ((l.take n).take k) = y at *
        have HG := hid hgg
        have HV := hid hvv
        clear hgg hvv
        go_wp2
        go_round
        case rel =>
          refine ⟨k + 1, by omega, by go_num, ?_⟩
          rw [hts.out, bev_snoc, HV.out, u32_or_byte y x hbv0 hbv1 hg.1 hg.2]
        case measure => (simp [intOf]) <;> omega
      · have hkn : k = n := by omega
        subst hkn
        go_wp2
        go_ret
        refine ⟨by rw [E2.out]; first | rfl | (rw [List.take_take, Nat.min_self]; rfl), ?_, HF.out, HS.out⟩
        rw [HE.out, E3.out]
        exact HI.out
  · have hT : takeL l e n = [] := by
      unfold takeL
      unfold takeE at hE
      by_cases he : e = 0
      · rw [if_neg (by simpa using he)] at hE
        by_cases hl : l.length < n
        · rw [if_pos (Or.inr hl)]
        · rw [if_neg hl] at hE; exact absurd rfl hE
      · rw [if_pos (Or.inl he)]
    have hR : restL l e n = l := by
      unfold restL
      unfold takeE at hE
      by_cases he : e = 0
      · rw [if_neg (by simpa using he)] at hE
        by_cases hl : l.length < n
        · rw [if_pos (Or.inr hl)]
        · rw [if_neg hl] at hE; exact absurd rfl hE
      · rw [if_pos (Or.inl he)]
    have HE := hid hE
    have HT := hid hT
    have HR := hid hR
    clear hE hT hR
    go_enter Tryd.func69, Tryd.ntmps69
    go_wp2_with (go_at_call 70; refine (take_no ρ i rb l e n _ H.out HE.out).mono ?_; rintro en w1 ⟨v, rfl, hRb, hI, hF, hS⟩)
    go_ret
    refine ⟨by rw [HT.out]; rfl, ?_, hF, hS⟩
    rw [HR.out]
    exact hI
end Go.Proofs.YtaecfcaeopmiaaaDoor
