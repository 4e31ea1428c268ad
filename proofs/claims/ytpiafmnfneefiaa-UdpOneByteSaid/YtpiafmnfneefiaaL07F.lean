/-
  Plain laws of datagrams: what is taken is laid as it stood; exchanged addresses; what is laid is taken.
-/
import Derived.Test.YtpiafmnfneefiaaUdpQ
namespace Go.Proofs.Ytpiafmnfneefiaa

theorem gt_append_left {l m : List Int} {k : Nat} (h : k < l.length) : gt (l ++ m) k = gt l k := by
  simp [gt, List.getElem?_append_left h]
/-- the words of a datagram -/
theorem wsum_head8 (a b c d e f g h : Int) (r : List Int) : wsum ([a, b, c, d, e, f, g, h] ++ r) = (256 * a + b) + (256 * c + d) + (256 * e + f) + (256 * g + h) + wsum r := by
  simp [wsum]; omega
theorem eight {l : List Int} (h : 8 ≤ l.length) : l = [gt l 0, gt l 1, gt l 2, gt l 3, gt l 4, gt l 5, gt l 6, gt l 7] ++ l.drop 8 := by
  match l, h with
  | a :: b :: c :: d :: e :: f :: g :: i :: r, _ => rfl
/-- what the parts of pgE = 0 say -/
theorem pg_ok {V : Int} {bs : List Int} {V2 : Int} {bs2 : List Int} {l : List Int} (h : pgE V bs V2 bs2 l = 0) :
    pairA V bs V2 bs2 = true ∧ 8 ≤ l.length ∧ wordL l 4 = (l.length : Int) ∧ (l.length : Int) - 8 ≤ mostV V ∧ (wordL l 6 = 0 → V ≠ 6) ∧ (wordL l 6 ≠ 0 → partL (headL V bs bs2 17 (l.length : Int) ++ l) = 65535) := by
  unfold pgE at h
  split at h
  · omega
  · rename_i h1
    split at h
    · omega
    · rename_i h2
      split at h
      · omega
      · rename_i h3
        split at h
        · omega
        · rename_i h4
          refine ⟨by simpa using h1, by omega, by omega, by omega, fun hz hv => h4 (Or.inl ⟨hz, hv⟩), fun hz => ?_⟩
          exact Decidable.byContradiction fun hn => h4 (Or.inr ⟨hz, hn⟩)
theorem pg_of {V : Int} {bs : List Int} {V2 : Int} {bs2 : List Int} {l : List Int} (h1 : pairA V bs V2 bs2 = true) (h2 : 8 ≤ l.length) (h3 : wordL l 4 = (l.length : Int)) (h4 : (l.length : Int) - 8 ≤ mostV V) (h5 : wordL l 6 = 0 → V ≠ 6)
    (h6 : wordL l 6 ≠ 0 → partL (headL V bs bs2 17 (l.length : Int) ++ l) = 65535) : pgE V bs V2 bs2 l = 0 := by
  unfold pgE
  rw [if_neg (by simp [h1]), if_neg (by omega), if_neg (by omega), if_neg]
  rintro (⟨hz, hv⟩ | ⟨hz, hn⟩)
  · exact h5 hz hv
  · exact hn (h6 hz)
theorem dg_of {V : Int} {bs : List Int} {V2 : Int} {bs2 : List Int} {sp dp : Int} {ns : Bool} {d : List Int} (h1 : pairA V bs V2 bs2 = true) (h2 : 0 ≤ sp ∧ sp ≤ 65535) (h3 : 0 ≤ dp ∧ dp ≤ 65535) (h4 : ns = true → V ≠ 6) (h5 : (d.length : Int) ≤ mostV V) : dgE V bs V2 bs2 sp dp ns d = 0 := by
  unfold dgE
  have e1 : portB sp = true := by simp [portB]; omega
  have e2 : portB dp = true := by simp [portB]; omega
  have e3 : (ns && decide (V = 6)) = false := by
    cases ns
    · rfl
    · have := h4 rfl; simp [this]
  rw [h1, e1, e2, e3, if_pos (by rfl), if_neg (by omega)]
theorem pair_V {V : Int} {bs : List Int} {V2 : Int} {bs2 : List Int} (h : pairA V bs V2 bs2 = true) : V = V2 := by
  unfold pairA at h; simp at h; exact h.1.1
theorem pair_flip {V : Int} {bs : List Int} {V2 : Int} {bs2 : List Int} (h : pairA V bs V2 bs2 = true) : pairA V2 bs2 V bs = true := by
  unfold pairA at h ⊢; simp at h ⊢; exact ⟨⟨h.1.1.symm, h.2⟩, h.1.2⟩
/-- the pseudo-header's words don't hang on which address is the source -/
theorem headL_flip {V : Int} {bs bs2 : List Int} {n : Int} (hl : bs.length = 16) (hl2 : bs2.length = 16) : wsum (headL V bs bs2 17 n) = wsum (headL V bs2 bs 17 n) := by
  unfold headL
  split
  · rw [List.append_assoc, List.append_assoc, wsum_even _ _ (by simp; omega), wsum_even _ _ (by simp; omega), wsum_even (bs2.take 4) _ (by simp; omega), wsum_even (bs.take 4) _ (by simp; omega)]
    omega
  · rw [List.append_assoc, List.append_assoc, wsum_even _ _ (by omega), wsum_even _ _ (by omega), wsum_even bs2 _ (by omega), wsum_even bs _ (by omega)]
    omega
theorem partL_flip {V : Int} {bs bs2 : List Int} {n : Int} {l : List Int} (hl : bs.length = 16) (hl2 : bs2.length = 16) : partL (headL V bs bs2 17 n ++ l) = partL (headL V bs2 bs 17 n ++ l) := by
  unfold partL
  rw [wsum_even _ _ (headL_even V 17 n hl hl2), wsum_even _ _ (headL_even V 17 n hl2 hl), headL_flip hl hl2]
/-- a sum that stands for 0 tells what must be added -/
theorem fold_full {A x : Int} (hA : 0 ≤ A) (hx : 1 ≤ x ∧ x ≤ 65535) : foldL (A + x) = 65535 ↔ x = if 65535 - foldL A = 0 then 65535 else 65535 - foldL A := by
  unfold foldL
  by_cases h0 : A = 0
  · subst h0
    rw [if_pos rfl, if_neg (by omega), if_neg (by omega)]
    omega
  · rw [if_neg h0, if_neg (by omega)]
    split <;> omega
section
variable {V : Int} {bs bs2 : List Int} {sp dp : Int} {d : List Int}
theorem wsum_dg (S : Int) : wsum (((dgB sp dp d).set 6 (S / 256)).set 7 (S % 256)) = wsum (dgB sp dp d) + S := by
  unfold dgB
  rw [wsum_head8]
  simp only [List.cons_append, List.nil_append, List.set_cons_succ, List.set_cons_zero]
  have := wsum_head8 (sp / 256) (sp % 256) (dp / 256) (dp % 256) ((8 + (d.length : Int)) / 256) ((8 + (d.length : Int)) % 256) (S / 256) (S % 256) d
  simp only [List.cons_append, List.nil_append] at this
  rw [this]
  omega
/-- the bytes laid make a whole sum -/
theorem dg_full (h : Byt bs) (h2 : Byt bs2) (hl : bs.length = 16) (hl2 : bs2.length = 16) (hs : 0 ≤ sp ∧ sp ≤ 65535) (hd : 0 ≤ dp ∧ dp ≤ 65535) (hb : Byt d) (hn : d.length ≤ 65527) :
    partL (headL V bs bs2 17 (8 + (d.length : Int)) ++ dgL V bs bs2 sp dp false d) = 65535 := by
  have hB := dgB_byt hs hd hb hn
  have hH := headL_byt (V := V) (proto := 17) (n := 8 + (d.length : Int)) h h2 (by omega) (by omega)
  have hS := dgS_bd (V := V) (bs := bs) (bs2 := bs2) (hH.append hB)
  unfold dgL
  rw [if_neg (by decide)]
  have he := headL_even V 17 (8 + (d.length : Int)) hl hl2
  unfold partL
  rw [wsum_even _ _ he, wsum_dg, ← Int.add_assoc, ← wsum_even _ _ he]
  exact (fold_full (wsum_bd (hH.append hB)).1 hS).2 rfl
end
/-- what is taken is laid as it stood -/
theorem form_back {V : Int} {bs : List Int} {V2 : Int} {bs2 : List Int} {l : List Int} (h : Byt bs) (h2 : Byt bs2) (hl : bs.length = 16) (hl2 : bs2.length = 16) (hb : Byt l) (hp : pgE V bs V2 bs2 l = 0) :
    dgE V bs V2 bs2 (wordL l 0) (wordL l 2) (decide (wordL l 6 = 0)) (l.drop 8) = 0 ∧ dgR V bs V2 bs2 (wordL l 0) (wordL l 2) (decide (wordL l 6 = 0)) (l.drop 8) = l := by
  obtain ⟨p1, p2, p3, p4, p5, p6⟩ := pg_ok hp
  have w0 := wordL_bd hb 0
  have w2 := wordL_bd hb 2
  have hm := mostV_le V
  have hdl : ((l.drop 8).length : Int) = (l.length : Int) - 8 := by simp; omega
  have hE : dgE V bs V2 bs2 (wordL l 0) (wordL l 2) (decide (wordL l 6 = 0)) (l.drop 8) = 0 := dg_of p1 w0 w2 (fun hz => p5 (by simpa using hz)) (by omega)
  refine ⟨hE, ?_⟩
  unfold dgR
  rw [if_pos hE]
  have hB : Byt (l.drop 8) := hb.drop 8
  have e8 : (8 + ((l.drop 8).length : Int)) = wordL l 4 := by omega
  have g0 := hb.bd 0; have g1 := hb.bd 1; have g2 := hb.bd 2; have g3 := hb.bd 3; have g4 := hb.bd 4; have g5 := hb.bd 5; have g6 := hb.bd 6; have g7 := hb.bd 7
  have W0 : wordL l 0 = 256 * gt l 0 + gt l 1 := rfl
  have W2 : wordL l 2 = 256 * gt l 2 + gt l 3 := rfl
  have W4 : wordL l 4 = 256 * gt l 4 + gt l 5 := rfl
  have W6 : wordL l 6 = 256 * gt l 6 + gt l 7 := rfl
  have hdb : dgB (wordL l 0) (wordL l 2) (l.drop 8) = [gt l 0, gt l 1, gt l 2, gt l 3, gt l 4, gt l 5, 0, 0] ++ l.drop 8 := by
    unfold dgB
    rw [e8]
    congr 1
    simp only [List.cons.injEq, and_true]
    refine ⟨?_, ?_, ?_, ?_, ?_, ?_⟩ <;> omega
  have he := eight p2
  unfold dgL
  by_cases hz : wordL l 6 = 0
  · rw [if_pos (by simpa using hz), hdb]
    have z6 : gt l 6 = 0 := by omega
    have z7 : gt l 7 = 0 := by omega
    conv => rhs; rw [he, z6, z7]
  · rw [if_neg (by simpa using hz)]
    have hsum := p6 hz
    have hH := headL_byt (V := V) (proto := 17) (n := (l.length : Int)) h h2 (by omega) (by omega)
    have hHe := headL_even V 17 (l.length : Int) hl hl2
    have hBB := dgB_byt w0 w2 hB (by omega)
    have hws : wsum l = wsum (dgB (wordL l 0) (wordL l 2) (l.drop 8)) + wordL l 6 := by
      rw [hdb, wsum_head8]
      conv => lhs; rw [he, wsum_head8]
      omega
    have hS : dgS V bs bs2 (wordL l 0) (wordL l 2) (l.drop 8) = wordL l 6 := by
      unfold dgS
      rw [show (8 + ((l.drop 8).length : Int)) = (l.length : Int) by omega]
      unfold partL at hsum ⊢
      rw [wsum_even _ _ hHe] at hsum ⊢
      rw [hws, ← Int.add_assoc] at hsum
      have w6 := wordL_bd hb 6
      exact ((fold_full (by have := (wsum_bd hH).1; have := (wsum_bd hBB).1; omega) ⟨by omega, w6.2⟩).1 hsum).symm
    rw [hS, hdb]
    simp only [List.cons_append, List.nil_append, List.set_cons_succ, List.set_cons_zero]
    conv => rhs; rw [he]
    simp only [List.cons_append, List.nil_append, List.cons.injEq, and_true, true_and]
    refine ⟨?_, ?_⟩ <;> omega
theorem form_flip {V : Int} {bs : List Int} {V2 : Int} {bs2 : List Int} {l : List Int} (hl : bs.length = 16) (hl2 : bs2.length = 16) (hp : pgE V bs V2 bs2 l = 0) : pgE V2 bs2 V bs l = 0 := by
  obtain ⟨p1, p2, p3, p4, p5, p6⟩ := pg_ok hp
  have hV := pair_V p1
  subst hV
  exact pg_of (pair_flip p1) p2 p3 p4 p5 fun hz => by rw [partL_flip hl2 hl]; exact p6 hz
theorem form_sum {V : Int} {bs : List Int} {V2 : Int} {bs2 : List Int} {l : List Int} (h : Byt bs) (h2 : Byt bs2) (hl : bs.length = 16) (hl2 : bs2.length = 16) (hb : Byt l) (hp : pgE V bs V2 bs2 l = 0) :
    pseOk V bs V2 bs2 17 l.length = true ∧ (wordL l 6 ≠ 0 → foldL (partL (headL V bs bs2 17 l.length) + partL l) = 65535) := by
  obtain ⟨p1, p2, p3, p4, p5, p6⟩ := pg_ok hp
  have hm := mostV_le V
  refine ⟨by unfold pseOk; rw [p1]; simp; omega, fun hz => ?_⟩
  rw [← partL_even (headL_byt h h2 (by omega) (by omega)) hb (headL_even V 17 _ hl hl2)]
  exact p6 hz
/-- what is laid is taken -/
theorem back_form {V : Int} {bs : List Int} {V2 : Int} {bs2 : List Int} {sp dp : Int} {ns : Bool} {d : List Int} (h : Byt bs) (h2 : Byt bs2) (hl : bs.length = 16) (hl2 : bs2.length = 16) (hb : Byt d) (he : dgE V bs V2 bs2 sp dp ns d = 0) :
    pgE V bs V2 bs2 (dgL V bs bs2 sp dp ns d) = 0 ∧ wordL (dgL V bs bs2 sp dp ns d) 0 = sp ∧ wordL (dgL V bs bs2 sp dp ns d) 2 = dp ∧ wordL (dgL V bs bs2 sp dp ns d) 4 = 8 + (d.length : Int) ∧ decide (wordL (dgL V bs bs2 sp dp ns d) 6 = 0) = ns ∧ (dgL V bs bs2 sp dp ns d).drop 8 = d := by
  obtain ⟨p1, hs, hd, hn, hm⟩ := dgE_ok he
  have hmv := mostV_le V
  have hB := dgB_byt hs hd hb (by omega)
  have hH := headL_byt (V := V) (proto := 17) (n := 8 + (d.length : Int)) h h2 (by omega) (by omega)
  have hS := dgS_bd (V := V) (bs := bs) (bs2 := bs2) (hH.append hB)
  have hlen := dgL_len V bs bs2 sp dp ns d
  have key : ∃ x y, dgL V bs bs2 sp dp ns d = [sp / 256, sp % 256, dp / 256, dp % 256, (8 + (d.length : Int)) / 256, (8 + (d.length : Int)) % 256, x, y] ++ d ∧ (256 * x + y = 0 ↔ ns = true) := by
    unfold dgL dgB
    cases ns
    · refine ⟨dgS V bs bs2 sp dp d / 256, dgS V bs bs2 sp dp d % 256, by simp, ?_⟩
      simp; omega
    · exact ⟨0, 0, by simp, by simp⟩
  obtain ⟨x, y, hk, hxy⟩ := key
  have e0 : wordL (dgL V bs bs2 sp dp ns d) 0 = sp := by rw [hk]; unfold wordL; simp [gt]; omega
  have e2 : wordL (dgL V bs bs2 sp dp ns d) 2 = dp := by rw [hk]; unfold wordL; simp [gt]; omega
  have e4 : wordL (dgL V bs bs2 sp dp ns d) 4 = 8 + (d.length : Int) := by rw [hk]; unfold wordL; simp [gt]; omega
  have e6 : wordL (dgL V bs bs2 sp dp ns d) 6 = 256 * x + y := by rw [hk]; unfold wordL; simp [gt]
  have e7 : decide (wordL (dgL V bs bs2 sp dp ns d) 6 = 0) = ns := by
    rw [e6]
    cases ns
    · exact decide_eq_false fun hz => by simpa using hxy.1 hz
    · exact decide_eq_true (hxy.2 rfl)
  refine ⟨pg_of p1 (by omega) (by rw [e4, hlen]; omega) (by rw [hlen]; omega) (fun hz => hn (by rw [← e7]; simpa using hz)) (fun hz => ?_), e0, e2, e4, e7, by rw [hk]; simp⟩
  have hns : ns = false := by
    rw [← e7]
    exact decide_eq_false hz
  subst hns
  rw [hlen]
  have := dg_full (V := V) h h2 hl hl2 hs hd hb (by omega)
  rw [show (((8 + d.length : Nat)) : Int) = 8 + (d.length : Int) by omega]
  exact this

end Go.Proofs.Ytpiafmnfneefiaa
