/-
  put: one number or run is written.
-/
import Derived.Test.YtniiigidedcpaaaMoves
import Derived.Deep.CutBlock
namespace Go.Proofs.Ytniiigidedcpaaa
open Go.RowKit

/-- the bytes that one call of a script writes -/
def putM (kd v : Int) (B : List Int) : List Int :=
  if kd = 1 then be 1 (v % 256) else if kd = 2 then be 2 (v % 65536) else if kd = 3 then be 4 v else if kd = 4 then B else []
def PutsPost (ρ : Nat → Nat) (i wb : Nat) (l : List Int) (lim e : Int) (m : List Int) (w : World) (en : Ending) (w' : World) : Prop :=
  en = .returned (.int .i64 m.length) ∧ ∃ ρ', (∀ k, k < w.heap.size → ρ' k = ρ k) ∧ IsW ρ' i w' wb (if roomE l.length lim e m.length = 0 then l ++ m else l) lim (roomE l.length lim e m.length) ∧ FrL ρ [i] w w'
theorem putM_byt {kd v : Int} {B : List Int} (hB : Byt B) : Byt (putM kd v B) := by
  unfold putM
  split
  · exact be_byt _ _
  · split
    · exact be_byt _ _
    · split
      · exact be_byt _ _
      · split
        · exact hB
        · exact Byt.nil

set_option maxHeartbeats 3200000 in
set_option maxRecDepth 20000 in
theorem put_any (ρ : Nat → Nat) (i wb : Nat) (l : List Int) (lim e kd wh n v : Int) (bv : Value) (B : List Int) (w : World) (h : IsW ρ i w wb l lim e) (hi9 : i ≠ 9)
    (hb : Rb w bv B) (hlen : B.length + 2 ≤ 140737488355328) (hv0 : 0 ≤ v) (hv1 : v ≤ 4294967295) :
    Calls Try.prog 32 #[.pointer (some ⟨wb, 0, none⟩), .agg #[.int .i64 kd, .int .i64 wh, .int .i64 n, .int .u32 v, bv]] w (PutsPost ρ i wb l lim e (putM kd v B) w) := by
  obtain ⟨a, cap, rfl, hcp, hmx, _⟩ := hb.open
  obtain ⟨bx, hbx⟩ : ∃ bx : Array Value, bx = #[.int .i64 kd, .int .i64 wh, .int .i64 n, .int .u32 v, .slice a B.length cap] := ⟨_, rfl⟩
  obtain ⟨w2, hw2⟩ : ∃ w2, w2 = w.alloc (.cells #[.int .i64 kd, .int .i64 wh, .int .i64 n, .int .u32 v, .slice a B.length cap] 49) := ⟨_, rfl⟩
  obtain ⟨ρ2, h2⟩ : ∃ ρ2, ρ2 = ext ρ w.heap.size 9 := ⟨_, rfl⟩
  have hbel : Below w.heap.size w w2 := by rw [hw2]; exact bel_alloc w _
  have X2 := hid (show w2.heap[w.heap.size]? = some (.cells bx 49 (0, 0)) by rw [hw2, hbx]; exact heap_alloc_new w _)
  obtain ⟨q0, q1, q2, q3, q4, z0, z1, z2, z3, z4⟩ := cells5 (by rw [← hbx]; exact X2.out)
  have hρ : ∀ k, k < w.heap.size → ρ2 k = ρ k := fun k hk => by rw [h2]; exact ext_old hk
  have W2 := hid (h.moves (fun k hk _ => hbel.block k hk) hρ)
  have HB := hid hb
  have HB2 := hid hbel
  have B2 := hid (hb.below hbel)
  have H2 := hid h2
  have HR := hid hρ
  have HW2 := hid hw2.symm
  have HX := hid hbx
  have fin : ∀ (m : List Int) (w' : World), IsW (ext ρ2 w2.heap.size i) i w' wb (if roomE l.length lim e m.length = 0 then l ++ m else l) lim (roomE l.length lim e m.length) → FrO ρ2 i w2 w' →
      ∃ ρ', (∀ k, k < w.heap.size → ρ' k = ρ k) ∧ IsW ρ' i w' wb (if roomE l.length lim e m.length = 0 then l ++ m else l) lim (roomE l.length lim e m.length) ∧ FrL ρ [i] w w' := fun m w' hW hF =>
    ⟨_, fun k hk => by rw [ext_old (Nat.lt_of_lt_of_le hk hbel.size)]; exact hρ k hk, hW, (FrL.of_below (ρ := ρ) hbel).trans (FrL.of hF (by simp)) hρ⟩
  have FIN := hid fin
  have hlim := hid h.2.2.2.2.1
  clear h hbel h2 hbx hw2 hρ fin hb
  go_enter Try.func32, Try.ntmps32
  go_upto_region 1 with fail
  rw [HW2.out]
  by_cases k1 : kd = 1
  · subst k1
    go_wp2_with fail
    refine (wU8_any ρ2 i wb l lim e (v % 256) _ W2.out (by omega) (by omega)).mono ?_
    rintro en w3 ⟨rfl, hW, hF⟩
    have R := hid (FIN.out _ _ hW hF)
    clear hW hF
    go_wp2_with fail
    go_ret
    exact ⟨rfl, R.out⟩
  by_cases k2 : kd = 2
  · subst k2
    go_wp2_with fail
    refine (wU16_any ρ2 i wb l lim e (v % 65536) _ W2.out (by omega) (by omega)).mono ?_
    rintro en w3 ⟨rfl, hW, hF⟩
    have R := hid (FIN.out _ _ hW hF)
    clear hW hF
    go_wp2_with fail
    go_ret
    exact ⟨rfl, R.out⟩
  by_cases k3 : kd = 3
  · subst k3
    go_wp2_with fail
    refine (wU32_any ρ2 i wb l lim e v _ W2.out).mono ?_
    rintro en w3 ⟨rfl, hW, hF⟩
    have R := hid (FIN.out _ _ hW hF)
    clear hW hF
    go_wp2_with fail
    go_ret
    exact ⟨rfl, R.out⟩
  by_cases k4 : kd = 4
  · subst k4
    go_wp2_with fail
    refine (own_any _ B _ B2.out (by omega)).mono ?_
    rintro en w3 ⟨v3, rfl, ho, hb3⟩
    have V3 := hid (Rb.of_own HB.out.byt ho)
    have L3 := hid (show Lab ρ2 9 v3 from fun b hb => by rw [H2.out]; exact ext_new (Nat.le_trans HB2.out.size (ho.lt b hb).1))
    have W3 := hid (W2.out.moves (ρ' := ρ2) (fun k hk _ => hb3.block k hk) fun _ _ => rfl)
    have X3 := hid ((hb3.block _ (lt_of_block X2.out)).trans X2.out)
    have HB3 := hid hb3
    clear ho hb3
    go_wp2_with fail
    refine (wBytes_any ρ2 i 9 wb l B lim e _ _ W3.out V3.out (fun _ => L3.out) (fun e => hi9 e.symm) (by omega)).mono ?_
    rintro en w4 ⟨rfl, hW, hF⟩
    have hs3 := HB3.out.size
    have R := hid (show ∃ ρ' : Nat → Nat, (∀ k, k < w.heap.size → ρ' k = ρ k) ∧ IsW ρ' i w4 wb (if roomE l.length lim e B.length = 0 then l ++ B else l) lim (roomE l.length lim e B.length) ∧ FrL ρ [i] w w4 from ⟨ext ρ2 w3.heap.size i, fun k hk => by rw [ext_old (Nat.lt_of_lt_of_le hk (Nat.le_trans HB2.out.size hs3))]; exact HR.out k hk, hW,
      ((FrL.of_below (ρ := ρ) (L := [i]) HB2.out).bel (HB3.out.mono HB2.out.size)).trans (FrL.of hF (by simp)) HR.out⟩)
    have X4 := hid ((hF.block _ (lt_of_block X3.out) (by rw [H2.out, ext_new (Nat.le_refl _)]; exact fun e => hi9 e.symm)).trans X3.out)
    obtain ⟨_, _, _, _, s4, _, _, _, _, u4⟩ := cells5 (by rw [← HX.out]; exact X4.out)
    clear hW hF
    go_wp2_with fail
    go_ret
    exact ⟨rfl, R.out⟩
  · have hm : putM kd v B = [] := by simp [putM, k1, k2, k3, k4]
    have hE : roomE l.length lim e (([] : List Int).length) = e := by
      unfold roomE
      have := hlim.out
      rw [if_neg]
      simp
      omega
    have R := hid (FIN.out [] w2 (by rw [hE]; rw [List.append_nil, ite_self]; exact W2.out.relab fun k hk => ext_old hk) (FrO.refl _ _ _))
    have HM := hid hm
    clear hm hE
    go_wp2_with fail
    go_ret
    rw [HM.out]
    exact ⟨rfl, R.out⟩

end Go.Proofs.Ytniiigidedcpaaa
