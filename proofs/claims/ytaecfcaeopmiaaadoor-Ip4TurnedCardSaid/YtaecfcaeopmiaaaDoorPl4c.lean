/-
  One byte of a packet's bytes is another: in the head no packet, in the data another packet.
-/
import Derived.Test.YtaecfcaeopmiaaaDoorPl4
import Derived.Test.YtaecfcaeopmiaaaDoorTurn
namespace Go.Proofs.YtaecfcaeopmiaaaDoor
open Go.RowKit

theorem b4L_set {p : Pk} {os xs : List Int} {j : Nat} {x : Int} (h1 : p.sB.length = 16) (h2 : p.dB.length = 16) : b4L p os (xs.set j x) = (b4L p os xs).set (20 + os.length + j) x := by
  unfold b4L
  rw [List.length_set, List.set_append_right _ _ (by rw [h4_len h1 h2]; omega), h4_len h1 h2, show 20 + os.length + j - (20 + os.length) = j by omega]
theorem wsum_first {l : List Int} (hb : Byt l) (h : 0 < l.length) : 256 * gt l 0 ≤ wsum l := by
  match l, h with
  | [a], _ => simp [wsum, gt]
  | a :: b :: r, _ =>
    have h1 := (wsum_bd (l := r) (fun y hy => hb y (by simp [hy]))).1
    have h2 := hb b (by simp)
    show 256 * a ≤ _
    simp only [wsum]
    omega
theorem gt_take {l : List Int} {n k : Nat} (h : k < n) : gt (l.take n) k = gt l k := by simp [gt, List.getElem?_take, h]
theorem turn4_head {p : Pk} {os xs : List Int} (hp : IsPk p) (ho : Byt os) (hx : Byt xs) (hr : right4 p os xs.length = true) {k : Nat} {x : Int} (h0 : 0 < k) (hk : k < 20 + os.length) (hx2 : 0 ≤ x ∧ x ≤ 255) (hne : x ≠ gt (b4L p os xs) k) :
    p4E ((b4L p os xs).set k x) ≠ 0 := by
  obtain ⟨q1, q2, _, _, _⟩ := back4 hp ho hx hr
  have hB := b4L_byt hp ho hx hr
  have hlen := b4L_len (p := p) (os := os) (xs := xs) hp.src.len hp.dst.len
  generalize b4L p os xs = l at *
  obtain ⟨h1, h2, h3, h4, h5, h6, h7, h8, h9⟩ := p4E_parts q1
  intro he
  obtain ⟨r1, r2, r3, r4, r5, r6, r7, r8, r9⟩ := p4E_parts he
  have e0 : gt (l.set k x) 0 = gt l 0 := gt_set_ne (by omega)
  have ehd : head4 (l.set k x) = head4 l := by unfold head4; rw [e0]
  have hkl : k < l.length := by omega
  have w2 : wordL (l.set k x) 2 = 256 * gt (l.set k x) 2 + gt (l.set k x) 3 := rfl
  have w2' : wordL l 2 = 256 * gt l 2 + gt l 3 := rfl
  have w10 : wordL (l.set k x) 10 = 256 * gt (l.set k x) 10 + gt (l.set k x) 11 := rfl
  have w10' : wordL l 10 = 256 * gt l 10 + gt l 11 := rfl
  rw [List.length_set] at r5
  have hz' : zeroed4 (l.set k x) = (((l.take (head4 l)).set k x).set 10 0).set 11 0 := by unfold zeroed4; rw [ehd, List.take_set]
  have hz : zeroed4 l = ((l.take (head4 l)).set 10 0).set 11 0 := rfl
  have htl : (l.take (head4 l)).length = head4 l := by simp; omega
  by_cases k2 : k = 2
  · subst k2; rw [gt_set_self hkl, gt_set_ne (by decide)] at w2; omega
  by_cases k3 : k = 3
  · subst k3; rw [gt_set_self hkl, gt_set_ne (by decide)] at w2; omega
  by_cases k10 : k = 10
  · subst k10
    rw [gt_set_self hkl, gt_set_ne (by decide)] at w10
    rw [List.set_set, ← hz] at hz'
    rw [hz'] at r6
    omega
  by_cases k11 : k = 11
  · subst k11
    rw [gt_set_self hkl, gt_set_ne (by decide)] at w10
    rw [List.set_comm _ _ (by decide : (11 : Nat) ≠ 10), List.set_set, ← hz] at hz'
    rw [hz'] at r6
    omega
  rw [gt_set_ne (by omega), gt_set_ne (by omega)] at w10
  have hz2 : zeroed4 (l.set k x) = (zeroed4 l).set k x := by
    rw [hz', hz, List.set_comm x 0 (by omega : k ≠ 10), List.set_comm x 0 (by omega : k ≠ 11)]
  have zl : (zeroed4 l).length = head4 l := by rw [hz]; simp; omega
  have zb : Byt (zeroed4 l) := by rw [hz]; exact ((hB.take _).set 10 (by decide) (by decide)).set 11 (by decide) (by decide)
  have zk : gt (zeroed4 l) k = gt l k := by rw [hz, gt_set_ne (by omega), gt_set_ne (by omega), gt_take (by omega)]
  have z0 : gt (zeroed4 l) 0 = gt l 0 := by rw [hz, gt_set_ne (by decide), gt_set_ne (by decide), gt_take (by omega)]
  have zb' : Byt ((zeroed4 l).set k x) := zb.set k hx2.1 hx2.2
  have f1 := wsum_first zb (by omega)
  have f2 := wsum_first zb' (by rw [List.length_set]; omega)
  rw [gt_set_ne (by omega), z0] at f2
  rw [z0] at f1
  have ws := wsum_set (zeroed4 l) k x (by omega)
  rw [zk] at ws
  rw [hz2] at r6
  have hyk := hB.bd k
  have hq : partL ((zeroed4 l).set k x) = partL (zeroed4 l) := by omega
  unfold partL foldL at hq
  rw [ws] at hq f2
  by_cases hp2 : k % 2 = 0
  · rw [if_pos hp2] at hq f2
    rw [if_neg (by omega), if_neg (by omega)] at hq
    omega
  · rw [if_neg hp2] at hq f2
    rw [if_neg (by omega), if_neg (by omega)] at hq
    omega
end Go.Proofs.YtaecfcaeopmiaaaDoor
