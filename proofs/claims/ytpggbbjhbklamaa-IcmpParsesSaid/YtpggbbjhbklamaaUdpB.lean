/-
  package udp: Pseudo where it is told; whole.
-/
import Derived.Test.YtpggbbjhbklamaaUdpA
namespace Go.Proofs.Ytpggbbjhbklamaa
open Go.RowKit

theorem pseOk_parts {V : Int} {bs : List Int} {V2 : Int} {bs2 : List Int} {proto n : Int} (h : pseOk V bs V2 bs2 proto n = true) : pairA V bs V2 bs2 = true ∧ (0 ≤ proto ∧ proto ≤ 255) ∧ (0 ≤ n ∧ n ≤ 65535) := by
  unfold pseOk at h
  simp only [Bool.and_eq_true, decide_eq_true_eq] at h
  exact ⟨h.1.1.1.1, ⟨h.1.1.1.2, h.1.1.2⟩, h.1.2, h.2⟩
theorem quiet_any {P : Program} {f : FuncId} {args : Array Value} {w : World} {n : Nat} {v : Value} (h : Calls P f args (w.drewN n) fun e w' => e = .returned v ∧ w.drewN n = w') : Calls P f args (w.drewN n) fun e w'' => e = .returned v ∧ ∃ m, w'' = w.drewN m :=
  Calls.quiet_of_same (h.mono fun _ _ ⟨a, b⟩ => ⟨a, b.symm⟩)
set_option maxHeartbeats 3200000 in
set_option maxRecDepth 20000 in
theorem pseudo_yes (V : Int) (bs : List Int) (V2 : Int) (bs2 : List Int) (proto n : Int) (w : World) (h : IsA V bs) (h2 : IsA V2 bs2) (hok : pseOk V bs V2 bs2 proto n = true) :
    Calls Try.prog 44 #[addrV V bs, addrV V2 bs2, .int .i64 proto, .int .i64 n] w (APost w (.tuple #[.int .u16 (partL (headL V bs bs2 proto n)), .int .i64 0])) := by
  obtain ⟨i0, hi, hz0, hz1, hz2⟩ := info_parts Try.info5
  obtain ⟨hp, hpr, hn⟩ := pseOk_parts hok
  have PE := hid (pseu_eq (V := V) h.byt h2.byt h.len h2.len hpr hn)
  have H := hid h
  have H2 := hid h2
  obtain ⟨a1, a2, bb⟩ := two_addr w V bs V2 bs2
  have A1 := hid a1
  have A2 := hid a2
  have BB := hid bb
  have P := fun W => pair_any V bs V2 bs2 W h h2
  rw [hp] at P
  have P := hid P
  clear a1 a2 bb h h2 hok hp
  unfold addrV at *
  have hd1 : decide (proto < 0) = false := by simp; omega
  have hd2 : decide (255 < proto) = false := by simp; omega
  have hd3 : decide (n < 0) = false := by simp; omega
  have hd4 : decide (65535 < n) = false := by simp; omega
  go_enter Try.func44, Try.ntmps44
  go_upto_region 1 with fail
  generalize (w.alloc (.cells (addrC V bs) 24)).alloc (.cells (addrC V2 bs2) 24) = w1 at *
  go_wp2_with (first | (refine wpList_load_addr rfl _ rfl _ _ _ rfl A1.out H.out.len ?_) | (refine wpList_load_addr rfl _ rfl _ _ _ rfl A2.out H2.out.len ?_))
  refine (P.out _).mono ?_
  rintro en w' ⟨rfl, hb⟩
  have BB2 := hid (BB.out.trans (hb.mono BB.out.size))
  have A12 := hid (A1.out.below hb)
  have A22 := hid (A2.out.below hb)
  have c1 := (A1.out.below hb).v
  clear hb A1 A2 BB P
  have hk : kA V ≤ 16 := by unfold kA; split <;> omega
  have hkv : (V = 4 ∧ kA V = 4) ∨ (V ≠ 4 ∧ kA V = 16) := by
    unfold kA; by_cases h : V = 4
    · left; rw [if_pos h]; exact ⟨h, rfl⟩
    · right; rw [if_neg h]; exact ⟨h, rfl⟩
  have R1 := hid (addr_rb A12.out H.out hk)
  have R2 := hid (addr_rb A22.out H2.out hk)
  have BL1 := hid (show (bs.take (kA V)).length ≤ 16 by have := List.length_take_le (kA V) bs; omega)
  have BL2 := hid (show (bs2.take (kA V)).length ≤ 16 by have := List.length_take_le (kA V) bs2; omega)
  have HKV := hid hkv
  clear hkv
  generalize bs.take (kA V) = d1 at *
  generalize bs2.take (kA V) = d2 at *
  generalize kA V = k at *
  have D1 := partL_bd R1.out.byt
  have D2 := partL_bd R2.out.byt
  have PA1 := fun m => part_any _ d1 (w'.drewN m) (R1.out.same (Same.drewN _ m)) (by have := BL1.out; omega)
  have PA2 := fun m => part_any _ d2 (w'.drewN m) (R2.out.same (Same.drewN _ m)) (by have := BL2.out; omega)
  have PA1 : ∀ m, Calls Try.prog 43 #[.slice (some ⟨w.heap.size, 1, none⟩) k 16] (w'.drewN m) fun e w'' => e = .returned (.int .u16 (partL d1)) ∧ ∃ m', w'' = w'.drewN m' := fun m => Calls.quiet_of (PA1 m)
  have PA2 : ∀ m, Calls Try.prog 43 #[.slice (some ⟨w.heap.size + 1, 1, none⟩) k 16] (w'.drewN m) fun e w'' => e = .returned (.int .u16 (partL d2)) ∧ ∃ m', w'' = w'.drewN m' := fun m => Calls.quiet_of (PA2 m)
  generalize partL d1 = p1 at *
  generalize partL d2 = p2 at *
  have PA1 := hid PA1
  have PA2 := hid PA2
  have hf1 := foldL_bd (n := p1 + p2) (by omega)
  have AD := hid (fun m => quiet_any (add_any p1 p2 (w'.drewN m) D1.1 D1.2 D2.1 D2.2))
  generalize foldL (p1 + p2) = f1 at *
  have hf2 := foldL_bd (n := f1 + proto) (by omega)
  have AD2 := hid (fun W => add_any f1 proto W (by omega) (by omega) (by omega) (by omega))
  generalize foldL (f1 + proto) = f2 at *
  have AD3 := hid (fun W => add_any f2 n W (by omega) (by omega) (by omega) (by omega))
  generalize foldL (f2 + n) = f3 at *
  have hvc : (V = 4 ∧ k = 4) ∨ ((V == 4) = false ∧ k = 16) := by
    rcases HKV.out with h | ⟨h, h'⟩
    · exact Or.inl h
    · exact Or.inr ⟨by simp [h], h'⟩
  rcases hvc with ⟨rfl, rfl⟩ | ⟨hv4, rfl⟩
  all_goals
    go_wp2_with fail
    go_quiet ((first | (go_at_call 43; with_reducible exact PA1.out _) | (go_at_call 43; with_reducible exact PA2.out _) | (go_at_call 45; with_reducible exact AD.out _)))
    go_wp2_with fail
    refine (AD2.out _).mono ?_
    rintro en w2 ⟨rfl, rfl⟩
    go_wp2_with fail
    refine (AD3.out _).mono ?_
    rintro en w2 ⟨rfl, rfl⟩
    go_wp2_with fail
    go_ret2
    refine ⟨?_, BB2.out.trans ((Same.drewN _ _).below _)⟩
    rw [← PE.out]
    rfl

theorem headL_even (V : Int) {bs bs2 : List Int} (proto n : Int) (hl : bs.length = 16) (hl2 : bs2.length = 16) : (headL V bs bs2 proto n).length % 2 = 0 := by
  unfold headL; split <;> simp <;> omega
theorem headL_len (V : Int) {bs bs2 : List Int} (proto n : Int) (hl : bs.length = 16) (hl2 : bs2.length = 16) : (headL V bs bs2 proto n).length ≤ 40 := by
  unfold headL; split <;> simp <;> omega
def WholePost (r : Int) (w : World) (en : Ending) (w' : World) : Prop := en = .returned (.int .u16 r) ∧ Below w.heap.size w w'
end Go.Proofs.Ytpggbbjhbklamaa
