/-
  size; what a script writes, in plain words.
-/
import Derived.Test.YtniiigidedcpaaaL02G
import Derived.Test.YtniiigidedcpaaaL02V
namespace Go.Proofs.Ytniiigidedcpaaa
open Go.RowKit

theorem Rops.below {w w' : World} {sv : Value} {ops : List Opv} (h : Rops w sv ops) (hb : Below w.heap.size w w') : Rops w' sv ops := by
  obtain ⟨a, cap, h1, h2, h3, h4⟩ := h
  refine ⟨a, cap, h1, h2, h3, fun k hk => ?_⟩
  obtain ⟨b, off, h5, h6⟩ := h4 k hk
  exact ⟨b, off, h5, h6.below hb⟩
theorem takeL_fit {l : List Int} {n : Nat} (h : n ≤ l.length) : takeL l 0 n = l.take n := by simp [takeL]; omega
theorem restL_fit {l : List Int} {n : Nat} (h : n ≤ l.length) : restL l 0 n = l.drop n := by simp [restL]; omega
theorem takeE_fit {l : List Int} {n : Nat} (h : n ≤ l.length) : takeE l 0 n = 0 := by simp [takeE]; omega
/-- what a script writes -/
def opM (x : Opv) : List Int := putM x.kd x.v x.B
def cat (ops : List Opv) : List Int := (ops.map opM).flatten
theorem cat_take {ops : List Opv} {k : Nat} (h : k < ops.length) : cat (ops.take (k + 1)) = cat (ops.take k) ++ opM (ops.getD k default) := by
  have e : ops.getD k default = ops[k] := by simp [List.getD_eq_getElem?_getD, h]
  rw [e, List.take_succ_eq_append_getElem h]
  unfold cat
  rw [List.map_append, List.flatten_append]
  simp only [List.map_cons, List.map_nil, List.flatten_cons, List.flatten_nil, List.append_nil]
theorem cat_drop {ops : List Opv} {k : Nat} (h : k < ops.length) : cat (ops.drop k) = opM (ops.getD k default) ++ cat (ops.drop (k + 1)) := by
  have e : ops.getD k default = ops[k] := by simp [List.getD_eq_getElem?_getD, h]
  rw [e, List.drop_eq_getElem_cons h]
  unfold cat
  simp only [List.map_cons, List.flatten_cons]
theorem cat_split (ops : List Opv) (k : Nat) : cat ops = cat (ops.take k) ++ cat (ops.drop k) := by
  unfold cat
  rw [← List.flatten_append, ← List.map_append, List.take_append_drop]
theorem cat_take_le (ops : List Opv) (k : Nat) : (cat (ops.take k)).length ≤ (cat ops).length := by
  rw [cat_split ops k, List.length_append]; omega
theorem cat_byt {ops : List Opv} (h : ∀ x ∈ ops, Byt x.B) : Byt (cat ops) := by
  intro y hy
  unfold cat at hy
  rw [List.mem_flatten] at hy
  obtain ⟨l, hl, hy⟩ := hy
  rw [List.mem_map] at hl
  obtain ⟨x, hx, rfl⟩ := hl
  exact putM_byt (h x hx) y hy
theorem bev_be4 {v : Int} (h0 : 0 ≤ v) (h1 : v ≤ 4294967295) : bev (be 4 v) = v := by
  simp [bev, be]; omega
theorem bev_be2 {v : Int} (h0 : 0 ≤ v) (h1 : v ≤ 65535) : bev (be 2 v) = v := by
  simp [bev, be]; omega
theorem bev_be1 {v : Int} (h0 : 0 ≤ v) (h1 : v ≤ 255) : bev (be 1 v) = v := by
  simp [bev, be]; omega
/-- what was written is read -/
theorem gotB_put {kd v : Int} {B : List Int} (h0 : 0 ≤ v) (h1 : v ≤ 4294967295) : gotB kd v B (putM kd v B) = true := by
  by_cases k1 : kd = 1
  · simp [gotB, putM, k1, bev_be1 (v := v % 256) (by omega) (by omega)]
  · by_cases k2 : kd = 2
    · simp [gotB, putM, k2, bev_be2 (v := v % 65536) (by omega) (by omega)]
    · by_cases k3 : kd = 3
      · simp [gotB, putM, k3, bev_be4 h0 h1]
      · by_cases k4 : kd = 4
        · simp [gotB, putM, k4]
        · simp [gotB, k1, k2, k3, k4]

def SizeRel (ops : List Opv) (t3 t4 : Value) : Prop := ∃ k : Nat, k ≤ ops.length ∧ t3 = .int .i64 (cat (ops.take k)).length ∧ t4 = .int .i64 k
theorem len_put {kd v : Int} {B : List Int} : (putM kd v B).length = if kd = 1 then 1 else if kd = 2 then 2 else if kd = 3 then 4 else if kd = 4 then B.length else 0 := by
  unfold putM
  split
  · exact be_length _ _
  · split
    · exact be_length _ _
    · split
      · exact be_length _ _
      · split <;> rfl

set_option maxHeartbeats 3200000 in
set_option maxRecDepth 20000 in
theorem size_any (sv : Value) (ops : List Opv) (w : World) (h : Rops w sv ops) (ht : (cat ops).length ≤ 1048576) :
    Calls Try.prog 31 #[sv] w fun en w' => en = .returned (.int .i64 (cat ops).length) ∧ w' = w := by
  obtain ⟨a, cap, rfl, hc, hm, hz⟩ := h
  unfold maxLen at hm
  have HZ := hid hz
  clear hz
  go_enter Try.func31, Try.ntmps31
  go_wp2_with fail
  go_loop [3, 4] (fun t3 t4 => SizeRel ops t3 t4) (fun _ i => ops.length - (intOf i).toNat)
  case atStart => exact ⟨0, Nat.zero_le _, by simp [cat], rfl⟩
  case round =>
    obtain ⟨k, hk, rfl, rfl⟩ := hrel
    by_cases hlt : k < ops.length
    · obtain ⟨b, off, rfl, hop⟩ := HZ.out k hlt
      have hct := cat_take hlt
      have hle := cat_take_le ops (k + 1)
      generalize ops.getD k default = x at hop hct
      obtain ⟨kd, wh, n, v, bv, B⟩ := x
      obtain ⟨g0, g1, g2, g3, g4, g5, gl, _⟩ := hop
      simp only at g0 g1 g2 g3 g4 g5 gl
      obtain ⟨ab, capb, rfl, _, _, _⟩ := g5.open
      rw [hct, List.length_append] at hle
      have hl2 : (opM ⟨kd, wh, n, v, .slice ab B.length capb, B⟩).length = (putM kd v B).length := rfl
      rw [hl2, len_put] at hle
      have HCT := hid hct
      have HL := hid (hl2.trans len_put)
      clear hct hl2 g5
      generalize hcc : (cat (ops.take k)).length = c at *
      have HCC := hid hcc
      clear hcc
      by_cases k1 : kd = 1
      · subst k1
        have hle : (c : Int) + 1 ≤ 1048576 := by simp at hle; omega
        have hl0 := hid (HL.out.trans (by simp : _ = 1))
        go_wp2
        go_round
        case rel => exact ⟨k + 1, by omega, by rw [HCT.out, List.length_append, HCC.out, hl0.out]; simp, by go_num⟩
        case measure => (simp [intOf]) <;> omega
      by_cases k2 : kd = 2
      · subst k2
        have hle : (c : Int) + 2 ≤ 1048576 := by simp at hle; omega
        have hl0 := hid (HL.out.trans (by simp : _ = 2))
        go_wp2
        go_round
        case rel => exact ⟨k + 1, by omega, by rw [HCT.out, List.length_append, HCC.out, hl0.out]; simp, by go_num⟩
        case measure => (simp [intOf]) <;> omega
      by_cases k3 : kd = 3
      · subst k3
        have hle : (c : Int) + 4 ≤ 1048576 := by simp at hle; omega
        have hl0 := hid (HL.out.trans (by simp : _ = 4))
        go_wp2
        go_round
        case rel => exact ⟨k + 1, by omega, by rw [HCT.out, List.length_append, HCC.out, hl0.out]; simp, by go_num⟩
        case measure => (simp [intOf]) <;> omega
      by_cases k4 : kd = 4
      · subst k4
        have hle : (c : Int) + B.length ≤ 1048576 := by simp at hle; omega
        have hl0 := hid (HL.out.trans (by simp : _ = B.length))
        go_wp2
        go_round
        case rel => exact ⟨k + 1, by omega, by rw [HCT.out, List.length_append, HCC.out, hl0.out]; simp, by go_num⟩
        case measure => (simp [intOf]) <;> omega
      have hl0 := hid (HL.out.trans (by simp [k1, k2, k3, k4] : _ = 0))
      go_wp2
      go_round
      case rel => exact ⟨k + 1, by omega, by rw [HCT.out, List.length_append, HCC.out, hl0.out]; simp, by go_num⟩
      case measure => (simp [intOf]) <;> omega
    · have hkl : k = ops.length := by omega
      subst hkl
      have hT : ops.take ops.length = ops := List.take_length
      have HT := hid hT
      clear hT
      go_wp2
      go_ret
      exact ⟨rfl, rfl⟩

end Go.Proofs.Ytniiigidedcpaaa
