/-
  sameOpts; Valid, the program's and the document's; the chapter's first examples.
-/
import Derived.Test.YtebfbpfikbjjlaaDoorBB04
import Derived.Test.YtebfbpfikbjjlaaDoorPB04
namespace Go.Proofs.YtebfbpfikbjjlaaDoor
open Go.RowKit

def SORel (w0 : World) (hs gs : List HOpt) (t : Value) (wr : World) : Prop := ∃ k : Nat, k ≤ hs.length ∧ t = .int .i64 k ∧ (hs.take k).map HOpt.o = (gs.take k).map HOpt.o ∧ Drw w0 wr
theorem so_ne {hs gs : List HOpt} {k : Nat} {x y : HOpt} (hx : hs[k]? = some x) (hy : gs[k]? = some y) (h : x.o ≠ y.o) : hs.map HOpt.o ≠ gs.map HOpt.o := fun e => h (by
  have h1 : (hs.map HOpt.o)[k]? = some x.o := by rw [List.getElem?_map, hx]; rfl
  have h2 : (gs.map HOpt.o)[k]? = some y.o := by rw [List.getElem?_map, hy]; rfl
  rw [e, h2] at h1
  exact (Option.some.inj h1).symm)
theorem so_snoc {hs gs : List HOpt} {k : Nat} {x y : HOpt} (hx : hs[k]? = some x) (hy : gs[k]? = some y) (h0 : (hs.take k).map HOpt.o = (gs.take k).map HOpt.o) (h : x.o = y.o) : (hs.take (k + 1)).map HOpt.o = (gs.take (k + 1)).map HOpt.o := by
  rw [take_map_snoc hx, take_map_snoc hy, h0, h]
set_option maxHeartbeats 3200000 in
set_option maxRecDepth 20000 in
theorem sameOpts_any (v u : Value) (hs gs : List HOpt) (w : World) (hv : Ropt w v hs) (hu : Ropt w u gs) : Calls Tryd.prog 13 #[v, u] w (SamePost w (decide (hs.map HOpt.o = gs.map HOpt.o))) := by
  have HV := hid hv
  have HU := hid hu
  obtain ⟨a, cap, rfl, hc, hm, _⟩ := hv
  obtain ⟨a2, cap2, rfl, hc2, hm2, _⟩ := hu
  unfold maxLen at hm hm2
  by_cases hlen : hs.length = gs.length
  · have HL := hid hlen
    have hd : decide ((hs.length : Int) = (gs.length : Int)) = true := by simp [hlen]
    have hd1 : ((hs.length : Int) != (gs.length : Int)) = false := by simp [hlen]
    clear hlen
    go_enter Tryd.func13, Tryd.ntmps13
    go_wp2_with fail
    go_loopw [5] (fun t wr => SORel w hs gs t wr) (fun t _ => hs.length - (intOf t).toNat)
    case atStart => exact ⟨0, Nat.zero_le _, rfl, rfl, Drw.refl _⟩
    case round =>
      obtain ⟨k, hk, rfl, hz0, hS⟩ := hrel
      have Z0 := hid hz0
      have HS := hid hS
      clear hz0 hS
      by_cases hlt : k < hs.length
      · have hlt2 : k < gs.length := by have := HL.out; omega
        obtain ⟨x, hx⟩ : ∃ x, hs[k]? = some x := ⟨hs[k], List.getElem?_eq_getElem hlt⟩
        obtain ⟨y, hy⟩ : ∃ y, gs[k]? = some y := ⟨gs[k], List.getElem?_eq_getElem hlt2⟩
        obtain ⟨b, off, av, cv, rfl, hve, c0, c1, hrb, _, hkb⟩ := ropt_at (HV.out.same HS.out.same) hx
        obtain ⟨b2, off2, av2, cv2, rfl, hve2, c02, c12, hrb2, _, hkb2⟩ := ropt_at (HU.out.same HS.out.same) hy
        have hne := hid (fun h => so_ne hx hy h)
        have hsn := hid (fun h => so_snoc hx hy Z0.out h)
        have RX := hid hrb
        have RY := hid hrb2
        have hoo : x.o = (x.k, x.l) := rfl
        have hoo2 : y.o = (y.k, y.l) := rfl
        rw [hoo, hoo2] at hne hsn
        clear hx hy hve hve2 hrb hrb2 hoo hoo2
        generalize x.k = kx at *
        generalize y.k = ky at *
        generalize x.l = lx at *
        generalize y.l = ly at *
        by_cases hxy : kx = ky
        · subst hxy
          by_cases hll : lx = ly
          · subst hll
            have SN := hid (hsn.out rfl)
            have SA := fun n => same_any _ _ _ _ _ (RX.out.same (Same.drewN _ n)) (RY.out.same (Same.drewN _ n))
            rw [show decide (lx = lx) = true from decide_eq_true rfl] at SA
            have SA := hid SA
            clear hne hsn
            go_wp2_with fail
            go_quiet ((go_at_call 16; exact Calls.quiet_of (SA.out _)))
            go_wp2
            go_roundw
            case rel => first | exact ⟨k + 1, by omega, by go_num, SN.out, HS.out.step _⟩ | ((repeat apply Exists.intro); exact ⟨⟨k + 1, by omega, by go_num, SN.out, HS.out.step _⟩, rfl⟩)
            case measure => (simp [intOf]) <;> omega
          · have ds : decide (lx = ly) = false := decide_eq_false hll
            have NE := hid (hne.out (fun e => hll (Prod.mk.inj e).2))
            clear hll hne hsn
            go_wp2_with fail
            go_quiet ((go_at_call 16; exact Calls.quiet_of (same_any _ _ _ _ _ (RX.out.same (Same.drewN _ _)) (RY.out.same (Same.drewN _ _)))))
            go_wp2
            go_ret
            refine ⟨?_, HS.out.step _⟩
            rw [decide_eq_false NE.out]
            rfl
        · have ds : (kx != ky) = true := by simp [hxy]
          have ds2 : decide (kx = ky) = false := decide_eq_false hxy
          have ds3 : (kx == ky) = false := by simp [hxy]
          have NE := hid (hne.out (fun e => hxy (Prod.mk.inj e).1))
          clear hxy hne hsn
          go_wp2_with fail
          go_quiet (fail)
          go_wp2
          go_ret
          refine ⟨?_, HS.out.step _⟩
          rw [decide_eq_false NE.out]
          rfl
      · have hkl : k = hs.length := by omega
        subst hkl
        go_wp2_with fail
        go_ret
        refine ⟨?_, HS.out⟩
        have := Z0.out
        rw [List.take_length, HL.out, List.take_length] at this
        rw [decide_eq_true this]
        rfl
  · have hd : decide ((hs.length : Int) = (gs.length : Int)) = false := by simp; omega
    have hd1 : ((hs.length : Int) != (gs.length : Int)) = true := by simp; omega
    have hd2 : decide (hs.map HOpt.o = gs.map HOpt.o) = false := decide_eq_false fun e => hlen (by have := congrArg List.length e; simpa using this)
    rw [hd2]
    clear hlen
    go_enter Tryd.func13, Tryd.ntmps13
    go_wp2_with fail
    go_ret
    exact ⟨rfl, Drw.refl _⟩

end Go.Proofs.YtebfbpfikbjjlaaDoor
