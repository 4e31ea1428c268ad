/-
  The chapter's first examples.
-/
import Derived.Test.YtebfbpfikbjjlaaDoorV04
namespace Go.Proofs.YtebfbpfikbjjlaaDoor
open Go.RowKit

theorem known_parse : parseL [1, 68, 4, 170, 187, 0, 0, 0] = some [(1, []), (68, [170, 187])] := by
  simp [parse_cons, parse_nil, zerosB]
theorem known_build : buildE [(1, []), (130, [7])] = 0 ∧ buildB [(1, []), (130, [7])] = [1, 130, 3, 7] := by decide
theorem known_carry : carryL [1, 130, 3, 7] = [130, 3, 7, 0] := by
  have hp : parseL [1, 130, 3, 7] = some [(1, []), (130, [7])] := by simp [parse_cons, parse_nil]
  have hv : validB [1, 130, 3, 7] = true := by unfold validB; rw [hp]; rfl
  rw [carry_some hv hp]
  decide
theorem byt_lit {l : List Int} (h : (l.all fun x => decide (0 ≤ x) && decide (x ≤ 255)) = true) : Byt l := lit_bytes h
theorem two_of {hs : List HOpt} {p q : Opt} (h : hs.map HOpt.o = [p, q]) : ∃ x y, hs = [x, y] ∧ x.o = p ∧ y.o = q := by
  cases hs with
  | nil => simp at h
  | cons x hs => cases hs with
    | nil => simp at h
    | cons y hs => cases hs with
      | nil => simp at h; exact ⟨x, y, rfl, h.1, h.2⟩
      | cons z hs => simp at h
theorem small_max {n : Nat} (h : n ≤ 1000) : n ≤ maxLen := by unfold maxLen; omega
theorem ropt_lit {w : World} {cs : Array Value} {t : TypeId} {fr : Nat × Nat} {b : Nat} {hs : List HOpt} {n : Nat} (hh : w.heap[b]? = some (.cells cs t fr)) (hc : cs.toList = ocells hs) (hn : n = hs.length) (hm : n ≤ maxLen)
    (hr : ∀ x ∈ hs, Rb w x.v x.l ∧ (Lit.int .i64 x.k).wf = true) : Ropt w (.slice (some ⟨b, 0, none⟩) n n) hs := by
  subst hn
  refine ⟨_, _, rfl, Nat.le_refl _, hm, fun j x hx => ⟨b, 0, rfl, ?_, ?_, hr x (List.mem_of_getElem? hx)⟩⟩
  · have := (ocells_get hs j x hx).1
    rw [← hc] at this
    simp only [World.cell?, hh, Nat.zero_add]
    simpa using this
  · have := (ocells_get hs j x hx).2
    rw [← hc] at this
    simp only [World.cell?, hh, Nat.zero_add]
    simpa using this
set_option maxHeartbeats 3200000 in
set_option maxRecDepth 20000 in
theorem known_any (w : World) (hT : Tab w) : Calls Tryd.prog 12 #[] w (BPost w true) := by
  have HT := hid hT
  clear hT
  go_enter Tryd.func12, Tryd.ntmps12
  go_wp2_with fail
  have A1 := hid (bel_alloc w (.cells #[.int .u8 1, .int .u8 68, .int .u8 4, .int .u8 170, .int .u8 187, .int .u8 0, .int .u8 0, .int .u8 0] 5))
  refine (parse_any _ [1, 68, 4, 170, 187, 0, 0, 0] _ (Rb.new (byt_lit (by decide)) (heap_alloc_new w _) rfl rfl (small_max (by decide))) (HT.out.below A1.out) (by simp)).mono ?_
  rintro en w1 ⟨hb, _, hs⟩
  obtain ⟨v1, hs1, rfl, he, ho⟩ := hs _ known_parse
  obtain ⟨x, y, rfl, hx, hy⟩ := two_of he
  have B1 := hid (A1.out.trans (hb.mono A1.out.size))
  obtain ⟨a, cap, rfl, hc, _, _⟩ := ho.ropt
  have RO := hid ho.ropt
  obtain ⟨b, off, av0, cv0, rfl, _, c00, _, _, _, _⟩ := ropt_at RO.out (k := 0) (h := x) rfl
  obtain ⟨b', off', av1, cv1, e, _, c10, c11, r11, _, _⟩ := ropt_at RO.out (k := 1) (h := y) rfl
  simp only [Option.some.injEq, Addr.mk.injEq, and_true] at e
  obtain ⟨rfl, rfl⟩ := e
  have hxk : x.k = 1 := congrArg Prod.fst hx
  have hyk : y.k = 68 := congrArg Prod.fst hy
  have hyl : y.l = [170, 187] := congrArg Prod.snd hy
  rw [hxk] at c00
  rw [hyk] at c10
  rw [hyl] at c11 r11
  have R11 := hid r11
  simp only [Nat.zero_mul, Nat.one_mul, Nat.add_zero] at c00 c10 c11
  clear hs hb he ho hx hy hxk hyk hyl r11 A1
  go_wp2_with fail
  have A2 : Hid (Below w1.heap.size w1 ((w1.alloc (.cells #[.int .u8 7] 5)).alloc (.cells #[.int .i64 1, .slice none 0 0, .int .i64 130, .slice (some ⟨w1.heap.size, 0, none⟩) 1 1] 38))) := hid ((bel_alloc w1 _).trans ((bel_alloc _ _).mono (by simp)))
  have L7 := hid (show Rb ((w1.alloc (.cells #[.int .u8 7] 5)).alloc (.cells #[.int .i64 1, .slice none 0 0, .int .i64 130, .slice (some ⟨w1.heap.size, 0, none⟩) 1 1] 38)) (.slice (some ⟨w1.heap.size, 0, none⟩) 1 1) [7] from
    (Rb.new (byt_lit (by decide)) (heap_alloc_new w1 _) rfl rfl (small_max (by decide))).below (bel_alloc _ _))
  have HH : ((w1.alloc (.cells #[.int .u8 7] 5)).alloc (.cells #[.int .i64 1, .slice none 0 0, .int .i64 130, .slice (some ⟨w1.heap.size, 0, none⟩) 1 1] 38)).heap[w1.heap.size + 1]? = some (.cells #[.int .i64 1, .slice none 0 0, .int .i64 130, .slice (some ⟨w1.heap.size, 0, none⟩) 1 1] 38 (0, 0)) := by
    have := heap_alloc_new (w1.alloc (.cells #[.int .u8 7] 5)) (.cells #[.int .i64 1, .slice none 0 0, .int .i64 130, .slice (some ⟨w1.heap.size, 0, none⟩) 1 1] 38)
    simpa using this
  refine (build_any _ [⟨1, .slice none 0 0, []⟩, ⟨130, .slice (some ⟨w1.heap.size, 0, none⟩) 1 1, [7]⟩] _ (ropt_lit HH rfl rfl (small_max (by simp)) (fun x hx => by
    simp only [List.mem_cons, List.not_mem_nil, or_false] at hx
    rcases hx with rfl | rfl
    · exact ⟨Rb.nil _, rfl⟩
    · exact ⟨L7.out, rfl⟩)) (HT.out.below (B1.out.trans (A2.out.mono B1.out.size)))).mono ?_
  rintro en w2 ⟨v2, rfl, ho2, hb2⟩
  have kb : buildE ([(⟨1, .slice none 0 0, []⟩ : HOpt), ⟨130, .slice (some ⟨w1.heap.size, 0, none⟩) 1 1, [7]⟩].map HOpt.o) = 0 ∧ buildB ([(⟨1, .slice none 0 0, []⟩ : HOpt), ⟨130, .slice (some ⟨w1.heap.size, 0, none⟩) 1 1, [7]⟩].map HOpt.o) = [1, 130, 3, 7] := known_build
  rw [kb.1]
  rw [kb.2] at ho2
  have R2 := hid (Rb.of_own (byt_lit (by decide)) ho2)
  have B12 := hid (A2.out.trans (hb2.mono A2.out.size))
  have B2 := hid (B1.out.trans (B12.out.mono B1.out.size))
  have d00 := (B12.out.cell (World.block_lt_of_cell? _ _ c00)).trans c00
  have d10 := (B12.out.cell (World.block_lt_of_cell? _ _ c10)).trans c10
  have d11 := (B12.out.cell (World.block_lt_of_cell? _ _ c11)).trans c11
  have S11 := hid (R11.out.below B12.out)
  clear ho2 hb2 kb c00 c10 c11 R11 L7 A2 HH
  go_wp2_with fail
  have C3 := hid (bel_alloc w2 (.cells #[.int .u8 170, .int .u8 187] 5))
  refine (same_any _ _ [170, 187] [170, 187] _ (S11.out.below C3.out) (Rb.new (byt_lit (by decide)) (heap_alloc_new w2 _) rfl rfl (small_max (by decide)))).mono ?_
  rintro en w3 ⟨rfl, hd3⟩
  have B23 := hid (C3.out.trans ((hd3.below _).mono C3.out.size))
  have B3 := hid (B2.out.trans (B23.out.mono B2.out.size))
  have R3 := hid (R2.out.below B23.out)
  rw [show decide (([170, 187] : List Int) = [170, 187]) = true from rfl]
  clear hd3 C3 S11
  go_wp2_with fail
  have C4 := hid (bel_alloc w3 (.cells #[.int .u8 1, .int .u8 130, .int .u8 3, .int .u8 7] 5))
  refine (same_any _ _ [1, 130, 3, 7] [1, 130, 3, 7] _ (R3.out.below C4.out) (Rb.new (byt_lit (by decide)) (heap_alloc_new w3 _) rfl rfl (small_max (by decide)))).mono ?_
  rintro en w4 ⟨rfl, hd4⟩
  have B34 := hid (C4.out.trans ((hd4.below _).mono C4.out.size))
  have B4 := hid (B3.out.trans (B34.out.mono B3.out.size))
  have R4 := hid (R3.out.below B34.out)
  rw [show decide (([1, 130, 3, 7] : List Int) = [1, 130, 3, 7]) = true from rfl]
  clear hd4 C4
  go_wp2_with fail
  refine (carry_any _ [1, 130, 3, 7] _ R4.out (HT.out.below B4.out)).mono ?_
  rintro en w5 ⟨v5, rfl, ho5, hb5⟩
  rw [known_carry] at ho5
  have R5 := hid (Rb.of_own (byt_lit (by decide)) ho5)
  have B5 := hid (B4.out.trans (hb5.mono B4.out.size))
  clear ho5 hb5
  go_wp2_with fail
  have C6 := hid (bel_alloc w5 (.cells #[.int .u8 130, .int .u8 3, .int .u8 7, .int .u8 0] 5))
  refine (same_any _ _ [130, 3, 7, 0] [130, 3, 7, 0] _ (R5.out.below C6.out) (Rb.new (byt_lit (by decide)) (heap_alloc_new w5 _) rfl rfl (small_max (by decide)))).mono ?_
  rintro en w6 ⟨rfl, hd6⟩
  have B6 := hid (B5.out.trans ((C6.out.trans ((hd6.below _).mono C6.out.size)).mono B5.out.size))
  rw [show decide (([130, 3, 7, 0] : List Int) = [130, 3, 7, 0]) = true from rfl]
  clear hd6 C6
  go_wp2_with fail
  go_ret
  exact ⟨rfl, B6.out⟩

end Go.Proofs.YtebfbpfikbjjlaaDoor
