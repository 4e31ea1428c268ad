/-
  ICMP messages on plain lists: laid, taken apart, one byte another.
-/
import Derived.Test.YtpggbbjhbklamaaUdpB
import Derived.Test.YtpggbbjhbklamaaWr
import Derived.Test.YtpggbbjhbklamaaTurn
namespace Go.Proofs.Ytpggbbjhbklamaa
open Go.RowKit

/-- a message's bytes, with s as its checksum -/
def iL (T C R s : Int) (d : List Int) : List Int := [T, C, s / 256, s % 256, R / 16777216, R / 65536 % 256, R / 256 % 256, R % 256] ++ d
/-- the checksum of bytes in which the two of the checksum are 0 -/
def chkL (V : Int) (bs bs2 l : List Int) : Int := 65535 - (if V = 6 then foldL (partL (headL V bs bs2 58 l.length) + partL l) else partL l)
def iS (V : Int) (bs bs2 : List Int) (T C R : Int) (d : List Int) : Int := chkL V bs bs2 (iL T C R 0 d)
def iB (V : Int) (bs bs2 : List Int) (T C R : Int) (d : List Int) : List Int := iL T C R (iS V bs bs2 T C R d) d
def imost (V : Int) : Int := if V = 4 then 65515 else 65535
def zero23 (l : List Int) : List Int := (l.set 2 0).set 3 0
def iE (V : Int) (bs bs2 l : List Int) : Int := if l.length < 8 then 20 else if imost V < l.length then 3 else if wordL l 2 = chkL V bs bs2 (zero23 l) then 0 else 52
def iR (l : List Int) : Int := ((gt l 4 * 256 + gt l 5) * 256 + gt l 6) * 256 + gt l 7
theorem iL_len (T C R s : Int) (d : List Int) : (iL T C R s d).length = 8 + d.length := by simp [iL]; omega
theorem iL_zero (T C R s : Int) (d : List Int) : zero23 (iL T C R s d) = iL T C R 0 d := rfl
theorem chkL_bd {V : Int} {bs bs2 l : List Int} (h1 : Byt bs) (h2 : Byt bs2) (hl : Byt l) (hn : l.length ≤ 65535) : 0 ≤ chkL V bs bs2 l ∧ chkL V bs bs2 l ≤ 65535 := by
  unfold chkL
  have k1 := partL_bd hl
  have k2 := partL_bd (headL_byt (V := V) (proto := 58) (n := l.length) h1 h2 (by omega) (by omega))
  have k3 := foldL_bd (n := partL (headL V bs bs2 58 l.length) + partL l) (by omega)
  split <;> omega
theorem iL_byt {T C R s : Int} {d : List Int} (hT : 0 ≤ T ∧ T ≤ 255) (hC : 0 ≤ C ∧ C ≤ 255) (hR : 0 ≤ R ∧ R ≤ 4294967295) (hs : 0 ≤ s ∧ s ≤ 65535) (hd : Byt d) : Byt (iL T C R s d) := by
  intro y hy
  unfold iL at hy
  rcases List.mem_append.1 hy with h | h
  · simp only [List.mem_cons, List.not_mem_nil, or_false] at h
    omega
  · exact hd y h
theorem zero23_byt {l : List Int} (h : Byt l) : Byt (zero23 l) := (h.set 2 (by decide) (by decide)).set 3 (by decide) (by decide)
theorem zero23_len (l : List Int) : (zero23 l).length = l.length := by simp [zero23]
/-- there and back -/
theorem i_back {V : Int} {bs bs2 : List Int} {T C R : Int} {d : List Int} (h1 : Byt bs) (h2 : Byt bs2) (hT : 0 ≤ T ∧ T ≤ 255) (hC : 0 ≤ C ∧ C ≤ 255) (hR : 0 ≤ R ∧ R ≤ 4294967295) (hd : Byt d) (hn : (8 + d.length : Int) ≤ imost V) (hV : imost V ≤ 65535) :
    iE V bs bs2 (iB V bs bs2 T C R d) = 0 ∧ gt (iB V bs bs2 T C R d) 0 = T ∧ gt (iB V bs bs2 T C R d) 1 = C ∧ iR (iB V bs bs2 T C R d) = R ∧ (iB V bs bs2 T C R d).drop 8 = d ∧ (iB V bs bs2 T C R d).length = 8 + d.length := by
  have hs := chkL_bd (V := V) h1 h2 (iL_byt (s := 0) hT hC hR (by decide) hd) (by rw [iL_len]; omega)
  have e : wordL (iB V bs bs2 T C R d) 2 = iS V bs bs2 T C R d := by
    show 256 * (iS V bs bs2 T C R d / 256) + iS V bs bs2 T C R d % 256 = _
    omega
  refine ⟨?_, rfl, rfl, ?_, rfl, iL_len ..⟩
  · unfold iE
    rw [show (iB V bs bs2 T C R d).length = 8 + d.length from iL_len .., if_neg (by omega), if_neg (by omega), if_pos (by rw [e]; rfl)]
  · show ((R / 16777216 * 256 + R / 65536 % 256) * 256 + R / 256 % 256) * 256 + R % 256 = R
    omega
/-- what is taken is laid as it stood -/
theorem i_form {V : Int} {bs bs2 l : List Int} (hb : Byt l) (he : iE V bs bs2 l = 0) : iB V bs bs2 (gt l 0) (gt l 1) (iR l) (l.drop 8) = l ∧ 8 ≤ l.length ∧ (l.length : Int) ≤ imost V := by
  unfold iE at he
  by_cases h8 : l.length < 8
  · rw [if_pos h8] at he; cases he
  · rw [if_neg h8] at he
    by_cases hm : imost V < l.length
    · rw [if_pos hm] at he; cases he
    · rw [if_neg hm] at he
      by_cases hw : wordL l 2 = chkL V bs bs2 (zero23 l)
      · refine ⟨?_, by omega, by omega⟩
        have y2 := hb.bd 2; have y3 := hb.bd 3; have y4 := hb.bd 4; have y5 := hb.bd 5; have y6 := hb.bd 6; have y7 := hb.bd 7
        match l, h8 with
        | a :: b :: c :: e :: f :: g :: h :: k :: r, _ =>
          have q2 : gt (a :: b :: c :: e :: f :: g :: h :: k :: r) 2 = c := rfl
          have q3 : gt (a :: b :: c :: e :: f :: g :: h :: k :: r) 3 = e := rfl
          have q4 : gt (a :: b :: c :: e :: f :: g :: h :: k :: r) 4 = f := rfl
          have q5 : gt (a :: b :: c :: e :: f :: g :: h :: k :: r) 5 = g := rfl
          have q6 : gt (a :: b :: c :: e :: f :: g :: h :: k :: r) 6 = h := rfl
          have q7 : gt (a :: b :: c :: e :: f :: g :: h :: k :: r) 7 = k := rfl
          have ez : zero23 (a :: b :: c :: e :: f :: g :: h :: k :: r) = iL a b (((f * 256 + g) * 256 + h) * 256 + k) 0 r := by
            rw [q4] at y4; rw [q5] at y5; rw [q6] at y6; rw [q7] at y7
            show [a, b, 0, 0, f, g, h, k] ++ r = _
            unfold iL
            rw [show (((f * 256 + g) * 256 + h) * 256 + k) / 16777216 = f by omega, show (((f * 256 + g) * 256 + h) * 256 + k) / 65536 % 256 = g by omega, show (((f * 256 + g) * 256 + h) * 256 + k) / 256 % 256 = h by omega, show (((f * 256 + g) * 256 + h) * 256 + k) % 256 = k by omega]
            rfl
          have ew : wordL (a :: b :: c :: e :: f :: g :: h :: k :: r) 2 = 256 * c + e := rfl
          rw [ez, ew] at hw
          show iL a b (((f * 256 + g) * 256 + h) * 256 + k) (chkL V bs bs2 (iL a b (((f * 256 + g) * 256 + h) * 256 + k) 0 r)) r = _
          rw [← hw]
          rw [q2] at y2; rw [q3] at y3; rw [q4] at y4; rw [q5] at y5; rw [q6] at y6; rw [q7] at y7
          unfold iL
          rw [show (((f * 256 + g) * 256 + h) * 256 + k) / 16777216 = f by omega, show (((f * 256 + g) * 256 + h) * 256 + k) / 65536 % 256 = g by omega, show (((f * 256 + g) * 256 + h) * 256 + k) / 256 % 256 = h by omega, show (((f * 256 + g) * 256 + h) * 256 + k) % 256 = k by omega,
            show (256 * c + e) / 256 = c by omega, show (256 * c + e) % 256 = e by omega]
          rfl
        | [], h | [_], h | [_, _], h | [_, _, _], h | [_, _, _, _], h | [_, _, _, _, _], h | [_, _, _, _, _, _], h | [_, _, _, _, _, _, _], h => simp at h
      · rw [if_neg hw] at he; cases he
theorem fold_ne {a b : Int} (ha : 0 ≤ a) (hb : 0 ≤ b) (h : a ≠ b) (h1 : a - b < 65535) (h2 : b - a < 65535) : foldL a ≠ foldL b := by
  unfold foldL
  split <;> split <;> omega
/-- one byte another: no message's bytes -/
theorem i_turn {V : Int} {bs bs2 l : List Int} {k : Nat} {x : Int} (h1 : Byt bs) (h2 : Byt bs2) (hb : Byt l) (he : iE V bs bs2 l = 0) (hV : imost V ≤ 65535) (hk : k < l.length) (hx : 0 ≤ x ∧ x ≤ 255) (hne : x ≠ gt l k) : iE V bs bs2 (l.set k x) = 52 := by
  obtain ⟨_, h8, hm⟩ := i_form hb he
  have yk := hb.bd k
  unfold iE at he
  rw [if_neg (by omega), if_neg (by omega)] at he
  have hw : wordL l 2 = chkL V bs bs2 (zero23 l) := by
    by_cases hw : wordL l 2 = chkL V bs bs2 (zero23 l)
    · exact hw
    · rw [if_neg hw] at he; cases he
  unfold iE
  rw [List.length_set, if_neg (by omega), if_neg (by omega), if_neg ?_]
  intro hw'
  by_cases hk23 : k = 2 ∨ k = 3
  · have ez : zero23 (l.set k x) = zero23 l := by
      unfold zero23
      rcases hk23 with rfl | rfl
      · rw [List.set_set]
      · rw [List.set_comm _ _ (by decide : (3 : Nat) ≠ 2), List.set_set]
    rw [ez, ← hw] at hw'
    unfold wordL at hw'
    rcases hk23 with rfl | rfl
    · rw [gt_set_self hk, gt_set_ne (by decide)] at hw'
      omega
    · rw [gt_set_ne (by decide), show (2 : Nat) + 1 = 3 from rfl, gt_set_self hk] at hw'
      omega
  · have e1 : wordL (l.set k x) 2 = wordL l 2 := by unfold wordL; rw [gt_set_ne (by omega), gt_set_ne (by omega)]
    have ez : zero23 (l.set k x) = (zero23 l).set k x := by
      unfold zero23
      rw [List.set_comm _ _ (by omega : k ≠ 2), List.set_comm _ _ (by omega : k ≠ 3)]
    have eg : gt (zero23 l) k = gt l k := by
      unfold zero23
      rw [gt_set_ne (by omega), gt_set_ne (by omega)]
    rw [e1, ez, hw] at hw'
    have zb := zero23_byt hb
    have zb' := zb.set k hx.1 hx.2
    have ws := wsum_set (zero23 l) k x (by rw [zero23_len]; exact hk)
    rw [eg] at ws
    have w0 := (wsum_bd zb).1
    have w1 := (wsum_bd zb').1
    have hd0 := (wsum_bd (headL_byt (V := V) (proto := 58) (n := l.length) h1 h2 (by omega) (by omega))).1
    have hdif : wsum ((zero23 l).set k x) ≠ wsum (zero23 l) ∧ wsum ((zero23 l).set k x) - wsum (zero23 l) < 65535 ∧ wsum (zero23 l) - wsum ((zero23 l).set k x) < 65535 := by
      split at ws <;> omega
    unfold chkL at hw'
    rw [List.length_set, zero23_len] at hw'
    by_cases h6 : V = 6
    · rw [if_pos h6, if_pos h6] at hw'
      unfold partL at hw'
      rw [foldL_add hd0 (foldL_bd w0).1, foldL_add' hd0 w0, foldL_add hd0 (foldL_bd w1).1, foldL_add' hd0 w1] at hw'
      have e7 : foldL (wsum (headL V bs bs2 58 l.length) + wsum (zero23 l)) = foldL (wsum (headL V bs bs2 58 l.length) + wsum ((zero23 l).set k x)) := by omega
      exact fold_ne (by omega) (by omega) (by omega) (by omega) (by omega) e7
    · rw [if_neg h6, if_neg h6] at hw'
      unfold partL at hw'
      have e7 : foldL (wsum (zero23 l)) = foldL (wsum ((zero23 l).set k x)) := by omega
      exact fold_ne w0 w1 (fun e => hdif.1 e.symm) (by omega) (by omega) e7
end Go.Proofs.Ytpggbbjhbklamaa
