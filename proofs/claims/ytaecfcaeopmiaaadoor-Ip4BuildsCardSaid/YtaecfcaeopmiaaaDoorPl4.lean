/-
  Packets of version 4 on plain lists: when one is right, its bytes, what bytes are read as.
-/
import Derived.Test.YtaecfcaeopmiaaaDoorPkt
import Derived.Test.YtaecfcaeopmiaaaDoorP04
import Derived.Test.YtaecfcaeopmiaaaDoorRdr
import Derived.Test.YtaecfcaeopmiaaaDoorPSum
namespace Go.Proofs.YtaecfcaeopmiaaaDoor
open Go.RowKit

def four4 (V : Int) (bs : List Int) : Bool := decide (V = 4) && zerosB (bs.drop 4)
def placed4 (p : Pk) (n : Nat) : Bool := decide ((0 ≤ p.Off ∧ p.Off ≤ 65528 ∧ p.Off % 8 = 0 ∧ p.Off + n ≤ 65535) ∧ (p.More = true → n ≠ 0 ∧ n % 8 = 0) ∧ (p.Off = 0 ∨ 0 < n))
def right4 (p : Pk) (os : List Int) (n : Nat) : Bool :=
  decide (p.V = 4 ∧ p.Flow = 0 ∧ p.Frag = false ∧ p.ID ≤ 65535) && four4 p.sV p.sB && four4 p.dV p.dB && decide ((0 ≤ p.TOS ∧ p.TOS ≤ 255) ∧ (0 ≤ p.Proto ∧ p.Proto ≤ 255) ∧ 0 ≤ p.TTL ∧ p.TTL ≤ 255) &&
    placed4 p n && validB os && decide (20 + os.length + n ≤ 65535)
theorem right4_parts {p : Pk} {os : List Int} {n : Nat} (h : right4 p os n = true) : (p.V = 4 ∧ p.Flow = 0 ∧ p.Frag = false ∧ p.ID ≤ 65535) ∧ (p.sV = 4 ∧ zerosB (p.sB.drop 4) = true) ∧ (p.dV = 4 ∧ zerosB (p.dB.drop 4) = true) ∧
    ((0 ≤ p.TOS ∧ p.TOS ≤ 255) ∧ (0 ≤ p.Proto ∧ p.Proto ≤ 255) ∧ 0 ≤ p.TTL ∧ p.TTL ≤ 255) ∧ ((0 ≤ p.Off ∧ p.Off ≤ 65528 ∧ p.Off % 8 = 0 ∧ p.Off + n ≤ 65535) ∧ (p.More = true → n ≠ 0 ∧ n % 8 = 0) ∧ (p.Off = 0 ∨ 0 < n)) ∧ validB os = true ∧ 20 + os.length + n ≤ 65535 := by
  unfold right4 four4 placed4 at h
  simp only [Bool.and_eq_true, decide_eq_true_eq] at h
  obtain ⟨⟨⟨⟨⟨⟨h1, h2⟩, h3⟩, h4⟩, h5⟩, h6⟩, h7⟩ := h
  exact ⟨h1, h2, h3, h4, h5, h6, h7⟩
theorem validB_len {os : List Int} (h : validB os = true) : os.length ≤ 40 ∧ os.length % 4 = 0 := by
  unfold validB at h
  simp only [Bool.and_eq_true, decide_eq_true_eq] at h
  exact h.1
def flags4 (p : Pk) : Int := p.Off / 8 + (if p.DF = true then 16384 else 0) + (if p.More = true then 8192 else 0)
/-- the head, with s as its checksum -/
def h4 (p : Pk) (os : List Int) (n : Nat) (s : Int) : List Int :=
  [64 + ((20 + os.length : Nat) : Int) / 4, p.TOS, ((20 + os.length + n : Nat) : Int) / 256, ((20 + os.length + n : Nat) : Int) % 256, p.ID / 256, p.ID % 256, flags4 p / 256, flags4 p % 256, p.TTL, p.Proto, s / 256, s % 256] ++ (p.sB.take 4 ++ (p.dB.take 4 ++ os))
def sum4 (p : Pk) (os : List Int) (n : Nat) : Int := 65535 - partL (h4 p os n 0)
def b4L (p : Pk) (os xs : List Int) : List Int := h4 p os xs.length (sum4 p os xs.length) ++ xs
theorem h4_len {p : Pk} {os : List Int} {n : Nat} {s : Int} (h1 : p.sB.length = 16) (h2 : p.dB.length = 16) : (h4 p os n s).length = 20 + os.length := by simp [h4, h1, h2]; omega
theorem b4L_len {p : Pk} {os xs : List Int} (h1 : p.sB.length = 16) (h2 : p.dB.length = 16) : (b4L p os xs).length = 20 + os.length + xs.length := by unfold b4L; rw [List.length_append, h4_len h1 h2]
theorem flags4_bd {p : Pk} (h0 : 0 ≤ p.Off) (h1 : p.Off ≤ 65528) (h2 : p.Off % 8 = 0) : 0 ≤ flags4 p ∧ flags4 p ≤ 32767 ∧ flags4 p % 8192 * 8 = p.Off ∧ flags4 p / 16384 % 2 = (if p.DF = true then 1 else 0) ∧ flags4 p / 8192 % 2 = (if p.More = true then 1 else 0) := by
  unfold flags4
  cases p.DF <;> cases p.More <;> simp <;> omega
theorem h4_byt {p : Pk} {os : List Int} {n : Nat} {s : Int} (hp : IsPk p) (ho : Byt os) (hr : right4 p os n = true) (h0 : 0 ≤ s) (h1 : s ≤ 65535) : Byt (h4 p os n s) := by
  obtain ⟨⟨_, _, _, t1⟩, _, _, ⟨t2, t3, t4⟩, ⟨t5, _, _⟩, t6, t7⟩ := right4_parts hr
  have hv := validB_len t6
  have hf := flags4_bd t5.1 t5.2.1 t5.2.2.1
  have hi := hp.id0
  refine Byt.append ?_ (Byt.append (hp.src.byt.take 4) (Byt.append (hp.dst.byt.take 4) ho))
  intro x hx
  simp only [List.mem_cons, List.not_mem_nil, or_false] at hx
  rcases hx with rfl | rfl | rfl | rfl | rfl | rfl | rfl | rfl | rfl | rfl | rfl | rfl <;> omega
theorem sum4_bd {p : Pk} {os : List Int} {n : Nat} (hp : IsPk p) (ho : Byt os) (hr : right4 p os n = true) : 0 ≤ sum4 p os n ∧ sum4 p os n ≤ 65535 := by
  have := partL_bd (h4_byt hp ho hr (s := 0) (by decide) (by decide))
  unfold sum4
  omega
theorem b4L_byt {p : Pk} {os xs : List Int} (hp : IsPk p) (ho : Byt os) (hx : Byt xs) (hr : right4 p os xs.length = true) : Byt (b4L p os xs) :=
  Byt.append (h4_byt hp ho hr (sum4_bd hp ho hr).1 (sum4_bd hp ho hr).2) hx
/-! ### what bytes are read as -/
def head4 (l : List Int) : Nat := (gt l 0 % 16 * 4).toNat
/-- the head's bytes, those of the checksum 0 -/
def zeroed4 (l : List Int) : List Int := ((l.take (head4 l)).set 10 0).set 11 0
def p4K (l : List Int) (ov xv : Value) : Pk :=
  { V := 4, TOS := gt l 1, Flow := 0, sV := 4, sB := (l.drop 12).take 4 ++ List.replicate 12 0, dV := 4, dB := (l.drop 16).take 4 ++ List.replicate 12 0, Proto := gt l 9, TTL := gt l 8, ID := wordL l 4,
    DF := decide (wordL l 6 / 16384 % 2 = 1), More := decide (wordL l 6 / 8192 % 2 = 1), Frag := false, Off := wordL l 6 % 8192 * 8, ov := ov, xv := xv }
def o4L (l : List Int) : List Int := (l.drop 20).take (head4 l - 20)
def x4L (l : List Int) : List Int := l.drop (head4 l)
def p4E (l : List Int) : Int :=
  if l.length < 20 then 20 else if gt l 0 / 16 ≠ 4 ∨ head4 l < 20 then 50 else if l.length < head4 l then 20 else if wordL l 2 ≠ (l.length : Int) then 51 else if wordL l 10 ≠ 65535 - partL (zeroed4 l) then 52
  else if 32768 ≤ wordL l 6 ∨ placed4 (p4K l (.slice none 0 0) (.slice none 0 0)) (l.length - head4 l) = false then 50 else if validB (o4L l) = false then 40 else 0
theorem gt_dropk (l : List Int) (i k : Nat) : gt l (i + k) = gt (l.drop i) k := by simp [gt, List.getElem?_drop]
theorem gt_take' {l : List Int} {n k : Nat} (h : k < n) : gt (l.take n) k = gt l k := by simp [gt, h]
theorem zeros_rep4 {l : List Int} (h : zerosB l = true) : l = List.replicate l.length 0 := by
  refine List.eq_replicate_of_mem fun x hx => ?_
  unfold zerosB at h
  have := List.all_eq_true.1 h x hx
  simpa using this
theorem four_pad {bs : List Int} (h : bs.length = 16) (hz : zerosB (bs.drop 4) = true) : bs.take 4 ++ List.replicate 12 0 = bs := by
  have h1 := zeros_rep4 hz
  rw [show (bs.drop 4).length = 12 by simp [h]] at h1
  rw [← h1, List.take_append_drop]
theorem pad_zeros {l : List Int} (h : l.length = 4) : zerosB ((l ++ List.replicate 12 0).drop 4) = true := by
  rw [← h, List.drop_left]
  decide
theorem set_two (a0 a1 a2 a3 a4 a5 a6 a7 a8 a9 x y u v : Int) (r : List Int) : (([a0, a1, a2, a3, a4, a5, a6, a7, a8, a9, x, y] ++ r).set 10 u).set 11 v = [a0, a1, a2, a3, a4, a5, a6, a7, a8, a9, u, v] ++ r := rfl
theorem h4_zero {p : Pk} {os : List Int} {n : Nat} {s : Int} : ((h4 p os n s).set 10 0).set 11 0 = h4 p os n 0 := by
  unfold h4
  rw [set_two]
  rfl
/-- a packet with other lists -/
def pkO (q : Pk) (o x : Value) : Pk := { q with ov := o, xv := x }
theorem back4 {p : Pk} {os xs : List Int} (hp : IsPk p) (ho : Byt os) (_hx : Byt xs) (hr : right4 p os xs.length = true) :
    p4E (b4L p os xs) = 0 ∧ head4 (b4L p os xs) = 20 + os.length ∧ o4L (b4L p os xs) = os ∧ x4L (b4L p os xs) = xs ∧ ∀ o x, p4K (b4L p os xs) o x = pkO p o x := by
  obtain ⟨⟨t0, t1, t2, t3⟩, ⟨a0, a1⟩, ⟨a2, a3⟩, ⟨b1, b2, b3⟩, ⟨c1, c2, c3⟩, d1, d2⟩ := right4_parts hr
  have hv := validB_len d1
  have hf := flags4_bd (p := p) c1.1 c1.2.1 c1.2.2.1
  have hi := hp.id0
  have hl1 := hp.src.len
  have hl2 := hp.dst.len
  have hlen := b4L_len (p := p) (os := os) (xs := xs) hl1 hl2
  have hs := sum4_bd hp ho hr
  have ec : b4L p os xs = [64 + ((20 + os.length : Nat) : Int) / 4, p.TOS, ((20 + os.length + xs.length : Nat) : Int) / 256, ((20 + os.length + xs.length : Nat) : Int) % 256, p.ID / 256, p.ID % 256, flags4 p / 256, flags4 p % 256, p.TTL, p.Proto, sum4 p os xs.length / 256, sum4 p os xs.length % 256] ++ (p.sB.take 4 ++ (p.dB.take 4 ++ (os ++ xs))) := by
    unfold b4L h4; simp only [List.append_assoc]
  have eh : b4L p os xs = h4 p os xs.length (sum4 p os xs.length) ++ xs := rfl
  have hh4 := h4_len (p := p) (os := os) (n := xs.length) (s := sum4 p os xs.length) hl1 hl2
  have hsum : sum4 p os xs.length = 65535 - partL (h4 p os xs.length 0) := rfl
  generalize hL : b4L p os xs = l at *
  generalize sum4 p os xs.length = s at *
  have g0 : gt l 0 = 64 + ((20 + os.length : Nat) : Int) / 4 := by rw [ec]; rfl
  have g1 : gt l 1 = p.TOS := by rw [ec]; rfl
  have g2 : gt l 2 = ((20 + os.length + xs.length : Nat) : Int) / 256 := by rw [ec]; rfl
  have g3 : gt l 3 = ((20 + os.length + xs.length : Nat) : Int) % 256 := by rw [ec]; rfl
  have g4 : gt l 4 = p.ID / 256 := by rw [ec]; rfl
  have g5 : gt l 5 = p.ID % 256 := by rw [ec]; rfl
  have g6 : gt l 6 = flags4 p / 256 := by rw [ec]; rfl
  have g7 : gt l 7 = flags4 p % 256 := by rw [ec]; rfl
  have g8 : gt l 8 = p.TTL := by rw [ec]; rfl
  have g9 : gt l 9 = p.Proto := by rw [ec]; rfl
  have g10 : gt l 10 = s / 256 := by rw [ec]; rfl
  have g11 : gt l 11 = s % 256 := by rw [ec]; rfl
  have t4 : (p.sB.take 4).length = 4 := by simp [hl1]
  have t5 : (p.dB.take 4).length = 4 := by simp [hl2]
  have d12 : l.drop 12 = p.sB.take 4 ++ (p.dB.take 4 ++ (os ++ xs)) := by rw [ec]; rfl
  have d16 : l.drop 16 = p.dB.take 4 ++ (os ++ xs) := by
    rw [show (16 : Nat) = 12 + 4 from rfl, ← List.drop_drop, d12]
    exact List.drop_left' t4
  have d20 : l.drop 20 = os ++ xs := by
    rw [show (20 : Nat) = 16 + 4 from rfl, ← List.drop_drop, d16]
    exact List.drop_left' t5
  have h12 : (l.drop 12).take 4 = p.sB.take 4 := by rw [d12]; exact List.take_left' t4
  have h16 : (l.drop 16).take 4 = p.dB.take 4 := by rw [d16]; exact List.take_left' t5
  have hhd : head4 l = 20 + os.length := by unfold head4; rw [g0]; omega
  have ho4 : o4L l = os := by
    unfold o4L
    rw [d20, hhd, show 20 + os.length - 20 = os.length by omega, List.take_left]
  have hx4 : x4L l = xs := by unfold x4L; rw [hhd, ← List.drop_drop, d20, List.drop_left]
  have w2 : wordL l 2 = (l.length : Int) := by
    rw [hlen]
    show 256 * gt l 2 + gt l 3 = _
    rw [g2, g3]; omega
  have w4 : wordL l 4 = p.ID := by show 256 * gt l 4 + gt l 5 = _; rw [g4, g5]; omega
  have w6 : wordL l 6 = flags4 p := by show 256 * gt l 6 + gt l 7 = _; rw [g6, g7]; omega
  have w10 : wordL l 10 = s := by show 256 * gt l 10 + gt l 11 = _; rw [g10, g11]; omega
  have hk : ∀ o x, p4K l o x = pkO p o x := fun o x => by
    unfold p4K
    have e1 : decide ((if p.DF = true then (1 : Int) else 0) = 1) = p.DF := by cases p.DF <;> rfl
    have e2 : decide ((if p.More = true then (1 : Int) else 0) = 1) = p.More := by cases p.More <;> rfl
    rw [h12, h16, four_pad hl1 a1, four_pad hl2 a3, g1, g8, g9, w4, w6, hf.2.2.1, hf.2.2.2.1, hf.2.2.2.2, e1, e2]
    unfold pkO
    rw [t1, t2, a0, a2, t0]
  refine ⟨?_, hhd, ho4, hx4, hk⟩
  have hz : zeroed4 l = h4 p os xs.length 0 := by
    unfold zeroed4
    rw [hhd, eh, ← hh4, List.take_left, h4_zero]
  unfold p4E
  rw [if_neg (by omega), if_neg (by rw [hhd, g0]; omega), if_neg (by omega), if_neg (by omega), if_neg (by rw [hz, w10, hsum]; omega), if_neg, if_neg (by rw [ho4, d1]; decide)]
  rw [hk, hhd]
  rintro (h | h)
  · omega
  · rw [show l.length - (20 + os.length) = xs.length by omega] at h
    have : placed4 (pkO p (.slice none 0 0) (.slice none 0 0)) xs.length = true := by
      unfold placed4 pkO
      simp only [decide_eq_true_eq]
      exact ⟨c1, c2, c3⟩
    rw [this] at h
    cases h
/-! ### and back -/
theorem take12 {l : List Int} (h : 12 ≤ l.length) : l.take 12 = [gt l 0, gt l 1, gt l 2, gt l 3, gt l 4, gt l 5, gt l 6, gt l 7, gt l 8, gt l 9, gt l 10, gt l 11] := by
  match l, h with
  | a0 :: a1 :: a2 :: a3 :: a4 :: a5 :: a6 :: a7 :: a8 :: a9 :: a10 :: a11 :: r, _ => rfl
theorem p4E_parts {l : List Int} (he : p4E l = 0) : 20 ≤ l.length ∧ gt l 0 / 16 = 4 ∧ 20 ≤ head4 l ∧ head4 l ≤ l.length ∧ wordL l 2 = (l.length : Int) ∧ wordL l 10 = 65535 - partL (zeroed4 l) ∧ wordL l 6 < 32768 ∧
    placed4 (p4K l (.slice none 0 0) (.slice none 0 0)) (l.length - head4 l) = true ∧ validB (o4L l) = true := by
  unfold p4E at he
  split at he
  · cases he
  split at he
  · cases he
  split at he
  · cases he
  split at he
  · cases he
  split at he
  · cases he
  split at he
  · cases he
  split at he
  · cases he
  rename_i h1 h2 h3 h4 h5 h6 h7
  simp only [not_or, Bool.not_eq_false] at h6 h7
  exact ⟨by omega, by omega, by omega, by omega, by omega, by omega, by omega, h6.2, h7⟩
theorem p4K_is {l : List Int} (hb : Byt l) (hl : 20 ≤ l.length) {o x : Value} (ho : o.oneCell' = true) (hx : x.oneCell' = true) : IsPk (p4K l o x) := by
  have hz : Byt (List.replicate 12 (0 : Int)) := by intro y hy; rw [List.eq_of_mem_replicate hy]; decide
  have hw := wordL_bd hb 4
  exact ⟨⟨by simp [p4K]; omega, Byt.append ((hb.drop 12).take 4) hz, (show (-9223372036854775808 : Int) ≤ 4 by decide), (show (4 : Int) ≤ 9223372036854775807 by decide)⟩, ⟨by simp [p4K]; omega, Byt.append ((hb.drop 16).take 4) hz, (show (-9223372036854775808 : Int) ≤ 4 by decide), (show (4 : Int) ≤ 9223372036854775807 by decide)⟩, hw.1, Int.le_trans hw.2 (by decide), ho, hx⟩
theorem head4_bd {l : List Int} (hb : Byt l) : head4 l ≤ 60 ∧ (head4 l : Int) = gt l 0 % 16 * 4 := by
  have := hb.bd 0
  unfold head4
  omega
theorem o4L_len {l : List Int} (h : head4 l ≤ l.length) : (o4L l).length = head4 l - 20 := by simp [o4L]; omega
theorem x4L_len {l : List Int} : (x4L l).length = l.length - head4 l := by simp [x4L]
theorem right4_form {l : List Int} (hb : Byt l) (he : p4E l = 0) {o x : Value} : right4 (p4K l o x) (o4L l) (x4L l).length = true := by
  obtain ⟨h1, h2, h3, h4, h5, h6, h7, h8, h9⟩ := p4E_parts he
  have hd := head4_bd hb
  have e1 : placed4 (p4K l o x) (x4L l).length = true := by rw [x4L_len]; exact h8
  have e2 : four4 4 ((l.drop 12).take 4 ++ List.replicate 12 0) = true := by unfold four4; rw [pad_zeros (by simp; omega)]; rfl
  have e3 : four4 4 ((l.drop 16).take 4 ++ List.replicate 12 0) = true := by unfold four4; rw [pad_zeros (by simp; omega)]; rfl
  have hw := wordL_bd hb 4
  have b1 := hb.bd 1; have b8 := hb.bd 8; have b9 := hb.bd 9; have b2 := wordL_bd hb 2
  unfold right4
  rw [e1, h9]
  show ((((((decide ((4 : Int) = 4 ∧ (0 : Int) = 0 ∧ false = false ∧ wordL l 4 ≤ 65535) && four4 4 ((l.drop 12).take 4 ++ List.replicate 12 0)) && four4 4 ((l.drop 16).take 4 ++ List.replicate 12 0)) &&
    decide ((0 ≤ gt l 1 ∧ gt l 1 ≤ 255) ∧ (0 ≤ gt l 9 ∧ gt l 9 ≤ 255) ∧ 0 ≤ gt l 8 ∧ gt l 8 ≤ 255)) && true) && true) && decide (20 + (o4L l).length + (x4L l).length ≤ 65535)) = true
  rw [e2, e3, decide_eq_true (⟨rfl, rfl, rfl, hw.2⟩ : (4 : Int) = 4 ∧ (0 : Int) = 0 ∧ false = false ∧ wordL l 4 ≤ 65535), decide_eq_true ⟨b1, b9, b8⟩, decide_eq_true (by rw [o4L_len h4, x4L_len]; omega)]
  rfl
theorem flags_back {w : Int} (h0 : 0 ≤ w) (h1 : w < 32768) : w % 8192 * 8 / 8 + (if decide (w / 16384 % 2 = 1) = true then 16384 else 0) + (if decide (w / 8192 % 2 = 1) = true then 8192 else 0) = w := by
  simp only [decide_eq_true_eq]
  split <;> split <;> omega
theorem form4 {l : List Int} (hb : Byt l) (he : p4E l = 0) {o x : Value} : b4L (p4K l o x) (o4L l) (x4L l) = l := by
  obtain ⟨h1, h2, h3, hL4, h5, h6, h7, h8, h9⟩ := p4E_parts he
  have hd := head4_bd hb
  have ol := o4L_len hL4
  have xl := x4L_len (l := l)
  have w6 := wordL_bd hb 6
  have b0 := hb.bd 0; have b2 := hb.bd 2; have b3 := hb.bd 3; have b4 := hb.bd 4; have b5 := hb.bd 5; have b6 := hb.bd 6; have b7 := hb.bd 7; have b10 := hb.bd 10; have b11 := hb.bd 11
  have e2 : wordL l 2 = 256 * gt l 2 + gt l 3 := rfl
  have e4 : wordL l 4 = 256 * gt l 4 + gt l 5 := rfl
  have e6 : wordL l 6 = 256 * gt l 6 + gt l 7 := rfl
  have e10 : wordL l 10 = 256 * gt l 10 + gt l 11 := rfl
  have hfl : flags4 (p4K l o x) = wordL l 6 := flags_back w6.1 h7
  have t1 : ((p4K l o x).sB).take 4 = (l.drop 12).take 4 := List.take_left' (by simp; omega)
  have t2 : ((p4K l o x).dB).take 4 = (l.drop 16).take 4 := List.take_left' (by simp; omega)
  have tail : (l.drop 12).take 4 ++ ((l.drop 16).take 4 ++ o4L l) = (l.drop 12).take (head4 l - 12) := by
    unfold o4L
    rw [show head4 l - 12 = 4 + (4 + (head4 l - 20)) by omega, List.take_add, List.take_add, List.drop_drop, List.drop_drop]
  have hh : ∀ s : Int, h4 (p4K l o x) (o4L l) (x4L l).length s = [gt l 0, gt l 1, gt l 2, gt l 3, gt l 4, gt l 5, gt l 6, gt l 7, gt l 8, gt l 9, s / 256, s % 256] ++ (l.drop 12).take (head4 l - 12) := fun s => by
    unfold h4
    rw [hfl, t1, t2, tail]
    congr 1
    show [64 + ((20 + (o4L l).length : Nat) : Int) / 4, gt l 1, ((20 + (o4L l).length + (x4L l).length : Nat) : Int) / 256, ((20 + (o4L l).length + (x4L l).length : Nat) : Int) % 256, wordL l 4 / 256, wordL l 4 % 256, wordL l 6 / 256, wordL l 6 % 256, gt l 8, gt l 9, s / 256, s % 256] = _
    rw [show 64 + ((20 + (o4L l).length : Nat) : Int) / 4 = gt l 0 by omega, show ((20 + (o4L l).length + (x4L l).length : Nat) : Int) / 256 = gt l 2 by omega, show ((20 + (o4L l).length + (x4L l).length : Nat) : Int) % 256 = gt l 3 by omega,
      show wordL l 4 / 256 = gt l 4 by omega, show wordL l 4 % 256 = gt l 5 by omega, show wordL l 6 / 256 = gt l 6 by omega, show wordL l 6 % 256 = gt l 7 by omega]
  have hz : zeroed4 l = h4 (p4K l o x) (o4L l) (x4L l).length 0 := by
    rw [hh 0]
    unfold zeroed4
    rw [show head4 l = 12 + (head4 l - 12) by omega, List.take_add, take12 (by omega), set_two]
    rw [show 12 + (head4 l - 12) - 12 = head4 l - 12 by omega]
    rfl
  have hs : sum4 (p4K l o x) (o4L l) (x4L l).length = wordL l 10 := by
    unfold sum4
    rw [← hz, ← h6]
  unfold b4L
  rw [hs, hh, List.append_assoc]
  have e : (l.drop 12).take (head4 l - 12) ++ x4L l = l.drop 12 := by
    unfold x4L
    rw [show l.drop (head4 l) = (l.drop 12).drop (head4 l - 12) by rw [List.drop_drop]; congr 1; omega, List.take_append_drop]
  rw [e]
  have e12 : [gt l 0, gt l 1, gt l 2, gt l 3, gt l 4, gt l 5, gt l 6, gt l 7, gt l 8, gt l 9, wordL l 10 / 256, wordL l 10 % 256] = l.take 12 := by
    rw [take12 (by omega), show wordL l 10 / 256 = gt l 10 by omega, show wordL l 10 % 256 = gt l 11 by omega]
  rw [e12, List.take_append_drop]
end Go.Proofs.YtaecfcaeopmiaaaDoor
