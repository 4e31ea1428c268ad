/-
  The statements of package udp: known.
-/
import Derived.Test.YtpiafmnfneefiaaUdpK
namespace Go.Proofs.Ytpiafmnfneefiaa
open Go.RowKit

theorem k_build (W : World) (dv : Value) (h : Rb W dv [104, 105]) : Calls Try.prog 13 #[.agg (addrC 4 kS), .agg (addrC 4 kD), .agg #[.int .i64 1000, .int .i64 7, .bool false, dv]] W (DgPost 0 kR W) := by
  have := build_any 4 kS 4 kD 1000 7 false dv [104, 105] W kS_is kD_is h
  rwa [k_e, k_r] at this
def KPost (w : World) (en : Ending) (w' : World) : Prop := ∃ a c, en = .returned (.tuple #[.agg #[.int .i64 1000, .int .i64 7, .bool false, .slice a 2 c], .int .i64 0]) ∧ Rb w' (.slice a 2 c) [104, 105] ∧ Below w.heap.size w w'
theorem k_parse (W : World) (dv : Value) (h : Rb W dv kR) : Calls Try.prog 16 #[.agg (addrC 4 kS), .agg (addrC 4 kD), dv] W (KPost W) := by
  have := parse_any 4 kS 4 kD dv kR W kS_is kD_is h
  rw [k_p] at this
  refine this.mono ?_
  rintro en w' ⟨hb, _, h2⟩
  obtain ⟨v, rfl, ho⟩ := h2 rfl
  have hR := Rb.of_own (l := [104, 105]) (by intro x hx; revert x; decide) ho
  obtain ⟨a, c, rfl, _⟩ := hR.open
  exact ⟨a, c, rfl, hR, hb⟩
theorem k_pseudo (W : World) : Calls Try.prog 10 #[.agg (addrC 4 kS), .agg (addrC 4 kD), .int .i64 17, .int .i64 10] W (APost W (.tuple #[.int .u16 5150, .int .i64 0])) := by
  have := pseudo_yes 4 kS 4 kD 17 10 W kS_is kD_is k_s
  rwa [k_h] at this
theorem k_same (W : World) (v u : Value) (l : List Int) (h : Rb W v l) (h2 : Rb W u l) : Calls Try.prog 15 #[v, u] W (SamePost W true) := by
  have := same_any v u l l W h h2
  rwa [decide_eq_true rfl] at this
theorem two_lit (w : World) : AddrAt ((w.alloc (.cells #[.int .i64 4, .int .u8 10, .int .u8 0, .int .u8 0, .int .u8 1, .int .u8 0, .int .u8 0, .int .u8 0, .int .u8 0, .int .u8 0, .int .u8 0, .int .u8 0, .int .u8 0, .int .u8 0, .int .u8 0, .int .u8 0, .int .u8 0] 24)).alloc (.cells #[.int .i64 4, .int .u8 10, .int .u8 0, .int .u8 0, .int .u8 2, .int .u8 0, .int .u8 0, .int .u8 0, .int .u8 0, .int .u8 0, .int .u8 0, .int .u8 0, .int .u8 0, .int .u8 0, .int .u8 0, .int .u8 0, .int .u8 0] 24)) w.heap.size 4 kS ∧
    AddrAt ((w.alloc (.cells #[.int .i64 4, .int .u8 10, .int .u8 0, .int .u8 0, .int .u8 1, .int .u8 0, .int .u8 0, .int .u8 0, .int .u8 0, .int .u8 0, .int .u8 0, .int .u8 0, .int .u8 0, .int .u8 0, .int .u8 0, .int .u8 0, .int .u8 0] 24)).alloc (.cells #[.int .i64 4, .int .u8 10, .int .u8 0, .int .u8 0, .int .u8 2, .int .u8 0, .int .u8 0, .int .u8 0, .int .u8 0, .int .u8 0, .int .u8 0, .int .u8 0, .int .u8 0, .int .u8 0, .int .u8 0, .int .u8 0, .int .u8 0] 24)) (w.heap.size + 1) 4 kD ∧
    Below w.heap.size w ((w.alloc (.cells #[.int .i64 4, .int .u8 10, .int .u8 0, .int .u8 0, .int .u8 1, .int .u8 0, .int .u8 0, .int .u8 0, .int .u8 0, .int .u8 0, .int .u8 0, .int .u8 0, .int .u8 0, .int .u8 0, .int .u8 0, .int .u8 0, .int .u8 0] 24)).alloc (.cells #[.int .i64 4, .int .u8 10, .int .u8 0, .int .u8 0, .int .u8 2, .int .u8 0, .int .u8 0, .int .u8 0, .int .u8 0, .int .u8 0, .int .u8 0, .int .u8 0, .int .u8 0, .int .u8 0, .int .u8 0, .int .u8 0, .int .u8 0] 24)) := two_addr w 4 kS 4 kD
set_option maxHeartbeats 6400000 in
set_option maxRecDepth 20000 in
theorem known_any (w : World) : Calls Try.prog 12 #[] w (APost w (.bool true)) := by
  obtain ⟨i0, hi, hz0, hz1, hz2⟩ := info_parts Try.info5
  obtain ⟨a1, a2, bb⟩ := two_lit w
  have A1 := hid a1
  have A2 := hid a2
  have BB := hid bb
  have HS := hid kS_is
  have HD := hid kD_is
  clear a1 a2 bb
  go_enter Try.func12, Try.ntmps12
  go_upto_region 3 with fail
  generalize (w.alloc (.cells #[.int .i64 4, .int .u8 10, .int .u8 0, .int .u8 0, .int .u8 1, .int .u8 0, .int .u8 0, .int .u8 0, .int .u8 0, .int .u8 0, .int .u8 0, .int .u8 0, .int .u8 0, .int .u8 0, .int .u8 0, .int .u8 0, .int .u8 0] 24)).alloc (.cells #[.int .i64 4, .int .u8 10, .int .u8 0, .int .u8 0, .int .u8 2, .int .u8 0, .int .u8 0, .int .u8 0, .int .u8 0, .int .u8 0, .int .u8 0, .int .u8 0, .int .u8 0, .int .u8 0, .int .u8 0, .int .u8 0, .int .u8 0] 24) = w1 at *
  go_wp2_with (first | (refine wpList_load_addr rfl _ rfl _ _ _ rfl A1.out HS.out.len ?_) | (refine wpList_load_addr rfl _ rfl _ _ _ rfl A2.out HD.out.len ?_))
  refine (k_build _ _ (rb_lit (l := [104, 105]) (by intro x hx; revert x; decide) rfl rfl (by decide))).mono ?_
  rintro en w2 ⟨v, rfl, ho, hb⟩
  have R2 := hid (Rb.of_own kR_byt ho)
  have BB2 := hid ((BB.out.trans ((bel_alloc w1 (.cells #[.int .u8 104, .int .u8 105] 5)).mono BB.out.size)).trans (hb.mono (by have := BB.out.size; simp; omega)))
  have A12 := hid ((A1.out.below (bel_alloc w1 (.cells #[.int .u8 104, .int .u8 105] 5))).below hb)
  have A22 := hid ((A2.out.below (bel_alloc w1 (.cells #[.int .u8 104, .int .u8 105] 5))).below hb)
  clear ho hb A1 A2 BB
  go_wp2_with (first | (refine wpList_load_addr rfl _ rfl _ _ _ rfl A12.out HS.out.len ?_) | (refine wpList_load_addr rfl _ rfl _ _ _ rfl A22.out HD.out.len ?_))
  refine (k_parse _ _ R2.out).mono ?_
  rintro en w3 ⟨a3, c3, rfl, hR, hb⟩
  have R3 := hid hR
  have R23 := hid (R2.out.below hb)
  have BB3 := hid (BB2.out.trans (hb.mono BB2.out.size))
  have A13 := hid (A12.out.below hb)
  have A23 := hid (A22.out.below hb)
  clear hR hb R2 A12 A22 BB2
  go_upto_region 5 with fail
  have b4 := bel_alloc w3 (.cells #[.int .i64 1000, .int .i64 7, .bool false, .slice a3 2 c3] 35)
  have C4 := heap_alloc_new w3 (.cells #[.int .i64 1000, .int .i64 7, .bool false, .slice a3 2 c3] 35)
  generalize w3.alloc (.cells #[.int .i64 1000, .int .i64 7, .bool false, .slice a3 2 c3] 35) = w4 at *
  have R34 := hid (R3.out.below b4)
  have R24 := hid (R23.out.below b4)
  have BB4 := hid (BB3.out.trans (b4.mono BB3.out.size))
  have A14 := hid (A13.out.below b4)
  have A24 := hid (A23.out.below b4)
  have D4 := hid C4
  clear C4 b4 R3 R23 A13 A23 BB3
  generalize w3.heap.size = k at *
  go_wp2_with (first | (refine wpList_load_addr rfl _ rfl _ _ _ rfl A14.out HS.out.len ?_) | (refine wpList_load_addr rfl _ rfl _ _ _ rfl A24.out HD.out.len ?_))
  refine (k_pseudo _).mono ?_
  rintro en w5 ⟨rfl, hb⟩
  have R35 := hid (R34.out.below hb)
  have R25 := hid (R24.out.below hb)
  have BB5 := hid (BB4.out.trans (hb.mono BB4.out.size))
  have D5 := hid (blk_below D4.out hb)
  clear hb R34 R24 A14 A24 BB4 D4
  go_wp2_with fail
  refine (k_same _ _ _ _ (R25.out.below (bel_alloc _ _)) (rb_lit (l := kR) kR_byt rfl rfl (by decide))).mono ?_
  rintro en w6 ⟨rfl, hD⟩
  have b6 := (bel_alloc w5 (.cells #[.int .u8 3, .int .u8 232, .int .u8 0, .int .u8 7, .int .u8 0, .int .u8 10, .int .u8 127, .int .u8 127, .int .u8 104, .int .u8 105] 5)).trans (hD.below _)
  have R36 := hid (R35.out.below b6)
  have BB6 := hid (BB5.out.trans (b6.mono BB5.out.size))
  obtain ⟨d0, d1, d2, d3⟩ := cells4 (blk_below D5.out b6)
  clear hD b6 R35 R25 BB5 D5
  go_wp2_with fail
  refine (k_same _ _ _ _ (R36.out.below (bel_alloc _ _)) (rb_lit (l := [104, 105]) (by intro x hx; revert x; decide) rfl rfl (by decide))).mono ?_
  rintro en w7 ⟨rfl, hD⟩
  have b7 := (bel_alloc w6 (.cells #[.int .u8 104, .int .u8 105] 5)).trans (hD.below _)
  have BB7 := hid (BB6.out.trans (b7.mono BB6.out.size))
  clear hD b7
  go_wp2_with fail
  go_ret
  exact ⟨rfl, BB7.out⟩
end Go.Proofs.Ytpiafmnfneefiaa
