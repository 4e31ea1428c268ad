/-
  Plain laws of chapter 6: a right packet's bytes are read as it; bytes that are taken are those of what is read; fit makes right packets.
-/
import Derived.Test.YthbdnmmmibdgpaaLaw6A
import Derived.Test.YthbdnmmmibdgpaaFit6
namespace Go.Proofs.Ythbdnmmmibdgpaa
open Go.RowKit

theorem fit_right (p : Pk) (n : Nat) (v : Value) : right6 (fitK p n v) 0 (fitN p n) = true := by
  have h1 := fitO_bd p
  have h2 := fitN_le p n
  have hp : 0 ≤ p.Proto % 256 ∧ p.Proto % 256 ≤ 255 := by omega
  have hm : (fitN p n : Int) ≤ 65535 ∧ (p.Frag = true → (fitN p n : Int) ≤ 65527 ∧ fitO p + fitN p n ≤ 65535) := by
    unfold fitN fitM
    cases hf : p.Frag
    · simp; omega
    · simp only [Bool.true_and, if_pos]
      cases hm : p.More <;> simp <;> omega
  have h8 : (p.Frag && p.More) = true → fitN p n % 8 = 0 := fun h => by unfold fitN; rw [if_pos h]; omega
  have hO : fitO p % 8 = 0 := by unfold fitO; split <;> omega
  unfold right6 six6 fitK
  simp only []
  generalize fitN p n = m at *
  have hq : ¬ (if p.Proto % 256 = 44 then (17 : Int) else p.Proto % 256) = 44 ∧ 0 ≤ (if p.Proto % 256 = 44 then (17 : Int) else p.Proto % 256) ∧ (if p.Proto % 256 = 44 then (17 : Int) else p.Proto % 256) ≤ 255 := by
    split
    · omega
    · omega
  generalize (if p.Proto % 256 = 44 then (17 : Int) else p.Proto % 256) = q at *
  have ht : 0 ≤ p.TOS % 256 ∧ p.TOS % 256 ≤ 255 := by omega
  have hl : 0 ≤ p.Flow % 1048576 ∧ p.Flow % 1048576 < 1048576 := by omega
  have hT : 0 ≤ p.TTL % 256 ∧ p.TTL % 256 ≤ 255 := by omega
  cases hf : p.Frag
  · have hO0 : fitO p = 0 := by unfold fitO; rw [hf, if_neg (by decide)]
    simp [hq, ht, hl, hT, hO0]
    omega
  · obtain ⟨m1, m2⟩ := hm.2 hf
    simp only [hf, Bool.true_and] at h8 ⊢
    by_cases h0 : m = 0
    · simp [hq, ht, hl, hT, h0]
    · have e1 : decide (m ≠ 0) = true := by simp [h0]
      simp only [if_neg h0, e1, Bool.and_true, if_true]
      cases hmo : p.More
      · simp [hq, ht, hl, hT, hO]
        omega
      · have := h8 hmo
        simp [hq, ht, hl, hT, hO, this]
        omega
theorem isA6 {V : Int} {bs : List Int} (h : IsA V bs) : IsA 6 bs := ⟨h.len, h.byt, by decide, by decide⟩
theorem fit_is {p : Pk} (h : IsPk p) (n : Nat) (v : Value) (hv : v.oneCell' = true) : IsPk (fitK p n v) := by
  refine ⟨isA6 h.src, isA6 h.dst, ?_, ?_, rfl, hv⟩
  · show 0 ≤ (if p.Frag = true then p.ID else 0)
    split
    · exact h.id0
    · decide
  · show (if p.Frag = true then p.ID else 0) ≤ 4294967295
    split
    · exact h.id1
    · decide

/-! ### the bytes of a right packet -/
def fragL (p : Pk) : List Int := if p.Frag = true then [p.Proto, 0, off6 p / 256, off6 p % 256, p.ID / 16777216, p.ID / 65536 % 256, p.ID / 256 % 256, p.ID % 256] else []
def w6 (p : Pk) : Int := 1610612736 + p.TOS * 1048576 + p.Flow
def nx6 (p : Pk) : Int := if p.Frag = true then 44 else p.Proto
theorem b6L_cons {p : Pk} {xs : List Int} (hp : IsPk p) (hr : right6 p 0 xs.length = true) :
    b6L p xs = [w6 p / 16777216, w6 p / 65536 % 256, w6 p / 256 % 256, w6 p % 256, plen6 p xs.length / 256, plen6 p xs.length % 256, nx6 p, p.TTL] ++ (p.sB ++ (p.dB ++ (fragL p ++ xs))) := by
  obtain ⟨_, t1, t2, t3, t4, t5, t6, t7, t8⟩ := right6_parts hr
  have hoff : 0 ≤ off6 p ∧ off6 p ≤ 65535 := by unfold off6; split <;> omega
  have hpl : 0 ≤ plen6 p xs.length ∧ plen6 p xs.length ≤ 65535 := by
    unfold plen6 head6
    cases hf : p.Frag
    · simp; omega
    · have := (t7 hf).1; simp; omega
  have hnx : 0 ≤ nx6 p ∧ nx6 p ≤ 255 := by unfold nx6; split <;> omega
  have e1 : be 4 (1610612736 + p.TOS * 1048576 + p.Flow) = _ := be4' (v := w6 p) (by unfold w6; omega) (by unfold w6; omega)
  have e2 := be2' hpl.1 hpl.2
  have e3 : be 1 (if p.Frag = true then 44 else p.Proto) = _ := be1' (v := nx6 p) hnx.1 hnx.2
  unfold b6L fragL
  rw [e1, e2, e3, be1' t4.1 t4.2, be1' t3.1 t3.2, be2' hoff.1 hoff.2, be4' hp.id0 hp.id1]
  cases p.Frag <;> simp [show be 1 0 = [0] from rfl]
theorem gt_drop (l : List Int) (i k : Nat) : gt l (i + k) = gt (l.drop i) k := by simp [gt, List.getElem?_drop]
theorem drop40 {p : Pk} {xs a : List Int} (h1 : p.sB.length = 16) (h2 : p.dB.length = 16) (ha : a.length = 8) : (a ++ (p.sB ++ (p.dB ++ (fragL p ++ xs)))).drop 40 = fragL p ++ xs := by
  rw [show (40 : Nat) = 8 + 16 + 16 from rfl, ← List.drop_drop, ← List.drop_drop, ← ha, List.drop_left, ← h1, List.drop_left, h1, ← h2, List.drop_left]
theorem drop24 {p : Pk} {xs a : List Int} (h1 : p.sB.length = 16) (ha : a.length = 8) : (a ++ (p.sB ++ (p.dB ++ (fragL p ++ xs)))).drop 24 = p.dB ++ (fragL p ++ xs) := by
  rw [show (24 : Nat) = 8 + 16 from rfl, ← List.drop_drop, ← ha, List.drop_left, ← h1, List.drop_left]
theorem drop8 {p : Pk} {xs a : List Int} (ha : a.length = 8) : (a ++ (p.sB ++ (p.dB ++ (fragL p ++ xs)))).drop 8 = p.sB ++ (p.dB ++ (fragL p ++ xs)) := by
  rw [← ha, List.drop_left]
/-- what a right packet's bytes are read as -/
theorem back6 {p : Pk} {xs : List Int} (hp : IsPk p) (hr : right6 p 0 xs.length = true) :
    p6E (b6L p xs) = 0 ∧ (b6L p xs).drop (from6 (b6L p xs)) = xs ∧ (b6L p xs).length = from6 (b6L p xs) + xs.length ∧ ∀ v, p6K (b6L p xs) v = { p with ov := .slice none 0 0, xv := v } := by
  obtain ⟨t0, t1, t2, t3, t4, t5, t6, t7, t8⟩ := right6_parts hr
  have hl1 := hp.src.len
  have hl2 := hp.dst.len
  have hlen : ((b6L p xs).length : Int) = head6 p + xs.length := b6L_len hl1 hl2
  have ec := b6L_cons hp hr
  have hoff : 0 ≤ off6 p ∧ off6 p ≤ 65535 ∧ off6 p / 8 * 8 = p.Off ∧ off6 p / 2 % 4 = 0 ∧ (decide (off6 p % 2 = 1)) = p.More := by
    unfold off6
    cases hm : p.More
    · simp; omega
    · simp; omega
  have hw : 1610612736 ≤ w6 p ∧ w6 p ≤ 1879048191 ∧ w6 p / 1048576 % 256 = p.TOS ∧ w6 p % 1048576 = p.Flow := by unfold w6; omega
  have hpl : plen6 p xs.length = head6 p - 40 + xs.length := rfl
  have hh : head6 p = if p.Frag = true then 48 else 40 := rfl
  have hnx : nx6 p = if p.Frag = true then 44 else p.Proto := rfl
  generalize hL : b6L p xs = l at *
  have g0 : gt l 0 = w6 p / 16777216 := by rw [ec]; rfl
  have g1 : gt l 1 = w6 p / 65536 % 256 := by rw [ec]; rfl
  have g2 : gt l 2 = w6 p / 256 % 256 := by rw [ec]; rfl
  have g3 : gt l 3 = w6 p % 256 := by rw [ec]; rfl
  have g4 : gt l 4 = plen6 p xs.length / 256 := by rw [ec]; rfl
  have g5 : gt l 5 = plen6 p xs.length % 256 := by rw [ec]; rfl
  have g6 : gt l 6 = nx6 p := by rw [ec]; rfl
  have g7 : gt l 7 = p.TTL := by rw [ec]; rfl
  have d8 : (l.drop 8).take 16 = p.sB := by rw [ec, drop8 rfl, ← hl1, List.take_left]
  have d24 : (l.drop 24).take 16 = p.dB := by rw [ec, drop24 hl1 rfl, ← hl2, List.take_left]
  have d40 : l.drop 40 = fragL p ++ xs := by rw [ec, drop40 hl1 hl2 rfl]
  have hq : quadL l 0 = w6 p := by unfold quadL wordL; rw [g0, g1, show (0 : Nat) + 2 = 2 from rfl, show (2 : Nat) + 1 = 3 from rfl, g2, g3]; omega
  have hwl : wordL l 4 = plen6 p xs.length := by unfold wordL; rw [g4, show (4 : Nat) + 1 = 5 from rfl, g5]; omega
  cases hf : p.Frag
  · obtain ⟨z1, z2, z3⟩ := t8 hf
    rw [hf, if_neg (by decide)] at hh hnx
    have hfr : fr6 l = false := by unfold fr6; rw [g6, hnx]; simp [t0.2.2.2.2.2]
    have hfm : from6 l = 40 := by unfold from6; rw [hfr]; rfl
    have hfl : fragL p = [] := by unfold fragL; rw [hf]; rfl
    have hk : ∀ v, p6K l v = { p with ov := .slice none 0 0, xv := v } := fun v => by
      unfold p6K
      rw [hfr, hq, d8, d24, g6, hnx, g7, hw.2.2.1, hw.2.2.2]
      obtain ⟨v1, v2, v3, v4, _⟩ := t0
      cases p
      simp_all
    refine ⟨?_, by rw [hfm, d40, hfl]; rfl, by rw [hfm]; omega, fun v => (hk v).trans (by rw [hf])⟩
    unfold p6E
    rw [hk, g0, hwl, g6, hnx, hfm]
    rw [if_neg (by omega), if_neg (by omega), if_neg (by omega), if_neg (fun h => t0.2.2.2.2.2 h.1), if_neg (fun h => t0.2.2.2.2.2 h.1)]
    rw [show l.length - 40 = xs.length by omega]
    exact if_pos hr
  · rw [hf, if_pos rfl] at hh hnx
    have hfr : fr6 l = true := by unfold fr6; rw [g6, hnx]; rfl
    have hfm : from6 l = 48 := by unfold from6; rw [hfr]; rfl
    have hfl : fragL p = [p.Proto, 0, off6 p / 256, off6 p % 256, p.ID / 16777216, p.ID / 65536 % 256, p.ID / 256 % 256, p.ID % 256] := by unfold fragL; rw [hf]; rfl
    rw [hfl] at d40
    have q0 : gt l 40 = p.Proto := by rw [show (40 : Nat) = 40 + 0 from rfl, gt_drop, d40]; rfl
    have q1 : gt l 41 = 0 := by rw [show (41 : Nat) = 40 + 1 from rfl, gt_drop, d40]; rfl
    have q2 : gt l 42 = off6 p / 256 := by rw [show (42 : Nat) = 40 + 2 from rfl, gt_drop, d40]; rfl
    have q3 : gt l 43 = off6 p % 256 := by rw [show (43 : Nat) = 40 + 3 from rfl, gt_drop, d40]; rfl
    have q4 : gt l 44 = p.ID / 16777216 := by rw [show (44 : Nat) = 40 + 4 from rfl, gt_drop, d40]; rfl
    have q5 : gt l 45 = p.ID / 65536 % 256 := by rw [show (45 : Nat) = 40 + 5 from rfl, gt_drop, d40]; rfl
    have q6 : gt l 46 = p.ID / 256 % 256 := by rw [show (46 : Nat) = 40 + 6 from rfl, gt_drop, d40]; rfl
    have q7 : gt l 47 = p.ID % 256 := by rw [show (47 : Nat) = 40 + 7 from rfl, gt_drop, d40]; rfl
    have hw42 : wordL l 42 = off6 p := by unfold wordL; rw [q2, show (42 : Nat) + 1 = 43 from rfl, q3]; omega
    have hq44 : quadL l 44 = p.ID := by
      unfold quadL wordL
      rw [q4, show (44 : Nat) + 1 = 45 from rfl, q5, show (44 : Nat) + 2 = 46 from rfl, q6, show (46 : Nat) + 1 = 47 from rfl, q7]
      have := hp.id0; have := hp.id1; omega
    have hk : ∀ v, p6K l v = { p with ov := .slice none 0 0, xv := v } := fun v => by
      unfold p6K
      rw [hfr, hq, d8, d24, q0, g7, hw.2.2.1, hw.2.2.2, hw42, hq44, hoff.2.2.1, hoff.2.2.2.2]
      obtain ⟨v1, v2, v3, v4, _⟩ := t0
      cases p
      simp_all
    have d48 : l.drop 48 = xs := by rw [show (48 : Nat) = 40 + 8 from rfl, ← List.drop_drop, d40]; rfl
    refine ⟨?_, by rw [hfm, d48], by rw [hfm]; omega, fun v => (hk v).trans (by rw [hf])⟩
    unfold p6E
    rw [hk, g0, hwl, g6, hnx, hfm, q1, hw42]
    rw [if_neg (by omega), if_neg (by omega), if_neg (by omega), if_neg (by omega), if_neg (by omega)]
    rw [show l.length - 48 = xs.length by omega]
    exact if_pos hr
theorem take8 : ∀ {l : List Int}, 8 ≤ l.length → l.take 8 = [gt l 0, gt l 1, gt l 2, gt l 3, gt l 4, gt l 5, gt l 6, gt l 7]
  | _ :: _ :: _ :: _ :: _ :: _ :: _ :: _ :: _, _ => rfl
  | [], h => by simp at h
  | [_], h => by simp at h
  | [_, _], h => by simp at h
  | [_, _, _], h => by simp at h
  | [_, _, _, _], h => by simp at h
  | [_, _, _, _, _], h => by simp at h
  | [_, _, _, _, _, _], h => by simp at h
  | [_, _, _, _, _, _, _], h => by simp at h
/-- the errors that Parse tells -/
theorem p6E_kinds (l : List Int) : p6E l = 0 ∨ p6E l = 20 ∨ p6E l = 50 ∨ p6E l = 51 := by
  unfold p6E
  repeat' split
  all_goals simp
theorem p6E_parts {l : List Int} (he : p6E l = 0) : 40 ≤ l.length ∧ gt l 0 / 16 = 6 ∧ wordL l 4 = (l.length : Int) - 40 ∧ (gt l 6 = 44 → 48 ≤ l.length ∧ gt l 41 = 0 ∧ wordL l 42 / 2 % 4 * 2 = 0) ∧ right6 (p6K l (.slice none 0 0)) 0 (l.length - from6 l) = true := by
  unfold p6E at he
  split at he
  · cases he
  rename_i h1
  split at he
  · cases he
  rename_i h2
  split at he
  · cases he
  rename_i h3
  split at he
  · cases he
  rename_i h4
  split at he
  · cases he
  rename_i h5
  split at he
  · rename_i h6
    refine ⟨by omega, by omega, by omega, fun hg => ?_, h6⟩
    have a1 : ¬ l.length < 48 := fun h => h4 ⟨hg, h⟩
    have a2 : ¬ (gt l 41 ≠ 0 ∨ wordL l 42 / 2 % 4 * 2 ≠ 0) := fun h => h5 ⟨hg, h⟩
    refine ⟨by omega, ?_, ?_⟩
    · by_cases h : gt l 41 = 0
      · exact h
      · exact absurd (.inl h) a2
    · by_cases h : wordL l 42 / 2 % 4 * 2 = 0
      · exact h
      · exact absurd (.inr h) a2
  · cases he
theorem p6K_is {l : List Int} (hb : Byt l) (hl : 40 ≤ l.length) {v : Value} (hv : v.oneCell' = true) : IsPk (p6K l v) := by
  refine ⟨take16_six (by omega) hb, take16_six (by omega) hb, ?_, ?_, rfl, hv⟩
  · show 0 ≤ (if fr6 l = true then quadL l 44 else 0)
    split
    · exact (quadL_bd hb 44).1
    · decide
  · show (if fr6 l = true then quadL l 44 else 0) ≤ 4294967295
    split
    · exact (quadL_bd hb 44).2
    · decide
/-- bytes that are taken are those that what is read is laid as -/
theorem form6 {l : List Int} (hb : Byt l) (he : p6E l = 0) {v : Value} (hv : v.oneCell' = true) : b6L (p6K l v) (l.drop (from6 l)) = l ∧ right6 (p6K l v) 0 (l.drop (from6 l)).length = true ∧ (l.length : Int) = head6 (p6K l v) + (l.drop (from6 l)).length := by
  obtain ⟨h40, h0, h4, hfr, hr⟩ := p6E_parts he
  have hf48 : from6 l = if fr6 l = true then 48 else 40 := rfl
  have hdl : (l.drop (from6 l)).length = l.length - from6 l := by simp
  have hr' : right6 (p6K l v) 0 (l.drop (from6 l)).length = true := by rw [hdl]; exact hr
  have hfl : from6 l ≤ l.length := by
    rw [hf48]
    split
    · rename_i h; unfold fr6 at h; exact (hfr (by simpa using h)).1
    · omega
  have hhd : head6 (p6K l v) = (from6 l : Int) := by
    show (if fr6 l = true then (48 : Int) else 40) = _
    rw [hf48]
    split <;> rfl
  refine ⟨?_, hr', by rw [hhd, hdl]; omega⟩
  rw [b6L_cons (p6K_is hb h40 hv) hr']
  have y0 := hb.bd 0; have y1 := hb.bd 1; have y2 := hb.bd 2; have y3 := hb.bd 3; have y4 := hb.bd 4; have y5 := hb.bd 5
  have hq : quadL l 0 = 16777216 * gt l 0 + 65536 * gt l 1 + 256 * gt l 2 + gt l 3 := by unfold quadL wordL; simp only [Nat.zero_add, Nat.reduceAdd]; omega
  have hw : w6 (p6K l v) = quadL l 0 := by
    show 1610612736 + quadL l 0 / 1048576 % 256 * 1048576 + quadL l 0 % 1048576 = quadL l 0
    omega
  have hpl : plen6 (p6K l v) (l.drop (from6 l)).length = wordL l 4 := by
    unfold plen6
    rw [hhd, hdl]; omega
  have hw4 : wordL l 4 = 256 * gt l 4 + gt l 5 := rfl
  have hnx : nx6 (p6K l v) = gt l 6 := by
    show (if fr6 l = true then (44 : Int) else if fr6 l = true then gt l 40 else gt l 6) = gt l 6
    by_cases h : gt l 6 = 44
    · rw [if_pos (by unfold fr6; simp [h]), h]
    · rw [if_neg (by unfold fr6; simp [h]), if_neg (by unfold fr6; simp [h])]
  have e8 : [w6 (p6K l v) / 16777216, w6 (p6K l v) / 65536 % 256, w6 (p6K l v) / 256 % 256, w6 (p6K l v) % 256, plen6 (p6K l v) (l.drop (from6 l)).length / 256, plen6 (p6K l v) (l.drop (from6 l)).length % 256, nx6 (p6K l v), (p6K l v).TTL] = l.take 8 := by
    rw [take8 (by omega), hw, hpl, hnx, hq, hw4]
    simp only [List.cons.injEq, and_true]
    refine ⟨by omega, by omega, by omega, by omega, by omega, by omega, trivial, rfl⟩
  rw [e8]
  have ef : fragL (p6K l v) ++ l.drop (from6 l) = l.drop 40 := by
    unfold fragL
    show (if fr6 l = true then _ else _) ++ _ = _
    by_cases h : gt l 6 = 44
    · have hfr1 : fr6 l = true := by unfold fr6; simp [h]
      obtain ⟨g1, g2, g3⟩ := hfr h
      have z2 := hb.bd 42; have z3 := hb.bd 43; have z4 := hb.bd 44; have z5 := hb.bd 45; have z6 := hb.bd 46; have z7 := hb.bd 47
      have hwl : wordL l 42 = 256 * gt l 42 + gt l 43 := rfl
      have hof : off6 (p6K l v) = wordL l 42 := by
        show (if (fr6 l && decide (wordL l 42 % 2 = 1)) = true then (if fr6 l = true then wordL l 42 / 8 * 8 else 0) + 1 else (if fr6 l = true then wordL l 42 / 8 * 8 else 0)) = _
        rw [hfr1, if_pos rfl, Bool.true_and]
        by_cases ho : wordL l 42 % 2 = 1
        · rw [if_pos (by simpa using ho)]; omega
        · rw [if_neg (by simpa using ho)]; omega
      have hid : (p6K l v).ID = quadL l 44 := by show (if fr6 l = true then quadL l 44 else 0) = _; rw [hfr1, if_pos rfl]
      have hpr : (p6K l v).Proto = gt l 40 := by show (if fr6 l = true then gt l 40 else gt l 6) = _; rw [hfr1, if_pos rfl]
      have hq4 : quadL l 44 = 16777216 * gt l 44 + 65536 * gt l 45 + 256 * gt l 46 + gt l 47 := by unfold quadL wordL; simp only [Nat.reduceAdd]; omega
      have t8 := take8 (l := l.drop 40) (by simp; omega)
      simp only [← gt_drop, Nat.reduceAdd, Nat.add_zero] at t8
      rw [if_pos hfr1, hf48, if_pos hfr1, hof, hid, hpr, hq4, hwl]
      have : [gt l 40, 0, (256 * gt l 42 + gt l 43) / 256, (256 * gt l 42 + gt l 43) % 256, (16777216 * gt l 44 + 65536 * gt l 45 + 256 * gt l 46 + gt l 47) / 16777216, (16777216 * gt l 44 + 65536 * gt l 45 + 256 * gt l 46 + gt l 47) / 65536 % 256, (16777216 * gt l 44 + 65536 * gt l 45 + 256 * gt l 46 + gt l 47) / 256 % 256, (16777216 * gt l 44 + 65536 * gt l 45 + 256 * gt l 46 + gt l 47) % 256] = (l.drop 40).take 8 := by
        rw [t8, g2]
        simp only [List.cons.injEq, and_true]
        refine ⟨trivial, trivial, by omega, by omega, by omega, by omega, by omega, by omega⟩
      rw [this, show (48 : Nat) = 40 + 8 from rfl, ← List.drop_drop, List.take_append_drop]
    · have hfr0 : fr6 l = false := by unfold fr6; simp [h]
      rw [hf48, hfr0]
      rfl
  rw [ef]
  show l.take 8 ++ ((l.drop 8).take 16 ++ ((l.drop 24).take 16 ++ l.drop 40)) = l
  rw [show (40 : Nat) = 24 + 16 from rfl, ← List.drop_drop, List.take_append_drop, show (24 : Nat) = 8 + 16 from rfl, ← List.drop_drop, List.take_append_drop, List.take_append_drop]
end Go.Proofs.Ythbdnmmmibdgpaa
