/-
  The statement UdpForms, walked.
-/
import Derived.Test.YtpiafmnfneefiaaUdpT
import Derived.Test.YtpiafmnfneefiaaL07F
namespace Go.Proofs.Ytpiafmnfneefiaa
open Go.RowKit

theorem drw_below {w w' : World} (h : Drw w w') : Below w.heap.size w w' := h.same.below _
/-- the bytes are taken, whichever address is the source -/
theorem forms_parse {V : Int} {bs : List Int} {V2 : Int} {bs2 : List Int} {l : List Int} (h : IsA V bs) (h2 : IsA V2 bs2) (e : Int) (h1 : pgE V bs V2 bs2 l = e) (h3 : pgE V2 bs2 V bs l = e) (W : World) (U : Int) (us : List Int) (U2 : Int) (us2 : List Int) (v : Value)
    (hc : (U = V ∧ us = bs ∧ U2 = V2 ∧ us2 = bs2) ∨ (U = V2 ∧ us = bs2 ∧ U2 = V ∧ us2 = bs)) (hR : Rb W v l) : Calls Try.prog 16 #[.agg (addrC U us), .agg (addrC U2 us2), v] W (PgAll e l W) := by
  rcases hc with ⟨rfl, rfl, rfl, rfl⟩ | ⟨rfl, rfl, rfl, rfl⟩
  · have := parse_all U us U2 us2 v l W h h2 hR; rwa [h1] at this
  · have := parse_all U us U2 us2 v l W h2 h hR; rwa [h3] at this
set_option maxHeartbeats 1000000 in
set_option maxRecDepth 20000 in
theorem udpForms_no (V : Int) (bs : List Int) (V2 : Int) (bs2 : List Int) (bv : Value) (l : List Int) (w : World) (h : IsA V bs) (h2 : IsA V2 bs2) (hd : Rb w bv l) (hne : pgE V bs V2 bs2 l ≠ 0) :
    Calls Try.prog 7 #[addrV V bs, addrV V2 bs2, bv] w (APost w (.bool true)) := by
  have H := hid h
  have H2 := hid h2
  have HD := hid hd
  obtain ⟨ad, cd, rfl, hcd, hmd, _⟩ := hd.open
  unfold maxLen at hmd
  obtain ⟨a1, a2, bb, hz⟩ := bx2 w (.cells (addrC V bs) 24) (.cells (addrC V2 bs2) 24)
  have DD := hid (fun W (hW : Below ((w.alloc (.cells (addrC V bs) 24)).alloc (.cells (addrC V2 bs2) 24)).heap.size ((w.alloc (.cells (addrC V bs) 24)).alloc (.cells (addrC V2 bs2) 24)) W) => (⟨blk_bel a1 hW, blk_bel a2 hW, HD.out.below (bb.trans (hW.mono bb.size)), bb.trans (hW.mono bb.size)⟩ : AddrAt W _ V bs ∧ AddrAt W _ V2 bs2 ∧ Rb W (.slice ad l.length cd) l ∧ Below w.heap.size w W))
  have B0 := hid (Below.refl ((w.alloc (.cells (addrC V bs) 24)).alloc (.cells (addrC V2 bs2) 24)).heap.size ((w.alloc (.cells (addrC V bs) 24)).alloc (.cells (addrC V2 bs2) 24)))
  have P1 := fun W hR => (show Calls Try.prog 16 #[.agg (addrC V bs), .agg (addrC V2 bs2), .slice ad l.length cd] W (fun en w' => en = .returned (.tuple #[.agg #[.int .i64 0, .int .i64 0, .bool false, .slice none 0 0], .int .i64 (pgE V bs V2 bs2 l)]) ∧ Below W.heap.size W w') from
    (parse_any V bs V2 bs2 (.slice ad l.length cd) l W h h2 hR).mono fun en w' hp => ⟨hp.2.1 hne, hp.1⟩)
  generalize pgE V bs V2 bs2 l = e at *
  have P1 := hid P1
  have hnb : (e != 0) = true := by simp [hne]
  have hnb2 : (e == 0) = false := by simp [hne]
  clear a1 a2 bb h h2 hd hz hne
  unfold addrV at *
  go_enter Try.func7, Try.ntmps7
  go_upto_region 1 with fail
  generalize ((w.alloc (.cells (addrC V bs) 24)).alloc (.cells (addrC V2 bs2) 24)) = w1 at *
  obtain ⟨A1, A2, HR, BW⟩ := DD.out _ B0.out; replace A1 := hid A1; replace A2 := hid A2; replace HR := hid HR; replace BW := hid BW
  have w' := w1
  go_wp2_with (first
    | go_skip
    | ((with_reducible show wpList _ _ _ (⟨some 22, _, _, _, _, _⟩ :: _) _ (World.alloc w' _)); refine wpList_world fun w' hw2 => ?_; have K1 := hid (blk_allocW hw2); replace B0 := hid (below_allocW hw2 (Nat.le_refl _) B0.out); clear hw2; clear A1 A2 HR BW; (try clear j0 j1 j2 j3); (try clear k0 k1 k2 k3); obtain ⟨A1, A2, HR, BW⟩ := DD.out _ B0.out; replace A1 := hid A1; replace A2 := hid A2; replace HR := hid HR; replace BW := hid BW; (try (have hj := cells4 K1.out; obtain ⟨j0, j1, j2, j3⟩ := hj)); (try (have hj := cells4 K2.out; obtain ⟨k0, k1, k2, k3⟩ := hj)))
    | ((with_reducible show wpList _ _ _ _ _ _); first | (refine wpList_cmp (by rfl) _ (by rfl) _ _ _ _ rfl _ (by go_simp; exact rfl) ?_ ?_ <;> (intro hc; (try simp only [decide_eq_true_eq, decide_eq_false_iff_not, Int.not_lt] at hc); (try (simp at hc; done)); go_prune)) | (refine wpList_load_addr (by rfl) _ rfl _ _ _ rfl A1.out H.out.len ?_) | (refine wpList_load_addr (by rfl) _ rfl _ _ _ rfl A2.out H2.out.len ?_))
    | (go_at_call 16; refine (P1.out _ HR.out).mono ?_; rintro en w' ⟨rfl, hb⟩; replace B0 := hid (B0.out.trans (hb.mono B0.out.size)); clear hb; clear A1 A2 HR BW; (try clear j0 j1 j2 j3); (try clear k0 k1 k2 k3); obtain ⟨A1, A2, HR, BW⟩ := DD.out _ B0.out; replace A1 := hid A1; replace A2 := hid A2; replace HR := hid HR; replace BW := hid BW; (try (have hj := cells4 K1.out; obtain ⟨j0, j1, j2, j3⟩ := hj)); (try (have hj := cells4 K2.out; obtain ⟨k0, k1, k2, k3⟩ := hj)))
    | (go_at_call 12; refine (known_any _).mono ?_; rintro en w' ⟨rfl, hb⟩; (try replace R1 := hid (R1.out.below hb)); (try replace R2 := hid (R2.out.below hb)); (try replace R3 := hid (R3.out.below hb)); (try replace R4 := hid (R4.out.below hb)); (try replace K1 := hid (blk_bel K1.out hb)); (try replace K2 := hid (blk_bel K2.out hb)); replace B0 := hid (B0.out.trans (hb.mono B0.out.size)); clear hb; clear A1 A2 HR BW; (try clear j0 j1 j2 j3); (try clear k0 k1 k2 k3); obtain ⟨A1, A2, HR, BW⟩ := DD.out _ B0.out; replace A1 := hid A1; replace A2 := hid A2; replace HR := hid HR; replace BW := hid BW; (try (have hj := cells4 K1.out; obtain ⟨j0, j1, j2, j3⟩ := hj)); (try (have hj := cells4 K2.out; obtain ⟨k0, k1, k2, k3⟩ := hj))))
  go_ret
  exact ⟨rfl, BW.out⟩
set_option maxHeartbeats 1000000 in
set_option maxRecDepth 20000 in
theorem udpForms_yes (V : Int) (bs : List Int) (V2 : Int) (bs2 : List Int) (bv : Value) (l : List Int) (w : World) (h : IsA V bs) (h2 : IsA V2 bs2) (hd : Rb w bv l) (hp : pgE V bs V2 bs2 l = 0) :
    Calls Try.prog 7 #[addrV V bs, addrV V2 bs2, bv] w (APost w (.bool true)) := by
  have H := hid h
  have H2 := hid h2
  have HD := hid hd
  obtain ⟨f1, f2⟩ := form_back h.byt h2.byt h.len h2.len hd.byt hp
  obtain ⟨f3, f4⟩ := form_sum h.byt h2.byt h.len h2.len hd.byt hp
  have f5 := form_flip h.len h2.len hp
  obtain ⟨_, g8, g4, gm, _, _⟩ := pg_ok hp
  have hmv := mostV_le V
  obtain ⟨ad, cd, rfl, hcd, hmd, _⟩ := hd.open
  unfold maxLen at hmd
  obtain ⟨a1, a2, bb, hz⟩ := bx2 w (.cells (addrC V bs) 24) (.cells (addrC V2 bs2) 24)
  have DD := hid (fun W (hW : Below ((w.alloc (.cells (addrC V bs) 24)).alloc (.cells (addrC V2 bs2) 24)).heap.size ((w.alloc (.cells (addrC V bs) 24)).alloc (.cells (addrC V2 bs2) 24)) W) => (⟨blk_bel a1 hW, blk_bel a2 hW, HD.out.below (bb.trans (hW.mono bb.size)), bb.trans (hW.mono bb.size)⟩ : AddrAt W _ V bs ∧ AddrAt W _ V2 bs2 ∧ Rb W (.slice ad l.length cd) l ∧ Below w.heap.size w W))
  have B0 := hid (Below.refl ((w.alloc (.cells (addrC V bs) 24)).alloc (.cells (addrC V2 bs2) 24)).heap.size ((w.alloc (.cells (addrC V bs) 24)).alloc (.cells (addrC V2 bs2) 24)))
  have P1 := forms_parse h h2 0 hp f5
  have P2 := fun W dv hR => build_any V bs V2 bs2 (wordL l 0) (wordL l 2) (decide (wordL l 6 = 0)) dv (l.drop 8) W h h2 hR
  rw [f1, f2] at P2
  unfold DgPost at P2
  unfold PgAll pg0 pg2 pgN pgD at P1
  simp only [if_pos] at P1
  have RB := hid (hd.byt.drop 8)
  have RL := hid hd.byt
  have P3 := hid (fun W => pseudo_yes V bs V2 bs2 17 l.length W h h2 f3)
  have P4 := hid (fun W hR => part_any (.slice ad l.length cd) l W hR (by omega))
  have hb3 := partL_bd (headL_byt (V := V) (proto := 17) (n := l.length) h.byt h2.byt (by omega) (by omega))
  have hb4 := partL_bd hd.byt
  have f4' : Hid (decide (wordL l 6 = 0) = false → foldL (partL (headL V bs bs2 17 l.length) + partL l) = 65535) := hid fun hz => f4 (by simpa using hz)
  generalize wordL l 0 = x0 at *
  generalize wordL l 2 = x2 at *
  generalize decide (wordL l 6 = 0) = xn at *
  generalize l.drop 8 = xd at *
  have P5 := hid (fun W (a b : Int) (h1 : 0 ≤ a ∧ a ≤ 65535) (h2 : 0 ≤ b ∧ b ≤ 65535) => add_any a b W h1.1 h1.2 h2.1 h2.2)
  generalize partL (headL V bs bs2 17 l.length) = p3 at *
  unfold PartPost at P4
  have SD := hid (fun W a c a2 c2 (h1 : Rb W (.slice a xd.length c) xd) (h2 : Rb W (.slice a2 xd.length c2) xd) => (show Calls _ _ _ W (APost W (.bool true)) from by have := sameDg_any x0 x2 xn _ xd x0 x2 xn _ xd W h1 h2; rwa [sameDg_refl] at this))
  generalize hn : xd.length = n at *
  generalize hpl : partL l = p4 at *
  have P1 := hid P1
  have P2 := hid P2
  have HN := hid hn
  clear a1 a2 bb h h2 hd hz hn f1 f2 f3 f4 f5 hp hpl
  unfold addrV at *
  go_enter Try.func7, Try.ntmps7
  go_upto_region 1 with fail
  generalize ((w.alloc (.cells (addrC V bs) 24)).alloc (.cells (addrC V2 bs2) 24)) = w1 at *
  obtain ⟨A1, A2, HR, BW⟩ := DD.out _ B0.out; replace A1 := hid A1; replace A2 := hid A2; replace HR := hid HR; replace BW := hid BW
  have w' := w1
  go_wp2_with (first
    | go_skip
    | ((with_reducible show wpList _ _ _ (⟨some 22, _, _, _, _, _⟩ :: _) _ (World.alloc w' _)); refine wpList_world fun w' hw2 => ?_; have K1 := hid (blk_allocW hw2); have hb := below_allocW hw2 (Nat.le_refl _) (Below.refl _ _); (try replace R1 := hid (R1.out.below hb)); (try replace R2 := hid (R2.out.below hb)); (try replace R3 := hid (R3.out.below hb)); (try replace R4 := hid (R4.out.below hb)); replace B0 := hid (below_allocW hw2 (Nat.le_refl _) B0.out); clear hw2 hb; clear A1 A2 HR BW; (try clear j0 j1 j2 j3); (try clear k0 k1 k2 k3); obtain ⟨A1, A2, HR, BW⟩ := DD.out _ B0.out; replace A1 := hid A1; replace A2 := hid A2; replace HR := hid HR; replace BW := hid BW; (try (have hj := cells4 K1.out; obtain ⟨j0, j1, j2, j3⟩ := hj)); (try (have hj := cells4 K2.out; obtain ⟨k0, k1, k2, k3⟩ := hj)))
    | ((with_reducible show wpList _ _ _ (⟨some 60, _, _, _, _, _⟩ :: _) _ (World.alloc w' _)); refine wpList_world fun w' hw2 => ?_; have K2 := hid (blk_allocW hw2); have hb := below_allocW hw2 (Nat.le_refl _) (Below.refl _ _); (try replace R1 := hid (R1.out.below hb)); (try replace R2 := hid (R2.out.below hb)); (try replace R3 := hid (R3.out.below hb)); (try replace R4 := hid (R4.out.below hb)); replace K1 := hid (blk_bel K1.out hb); replace B0 := hid (below_allocW hw2 (Nat.le_refl _) B0.out); clear hw2 hb; clear A1 A2 HR BW; (try clear j0 j1 j2 j3); (try clear k0 k1 k2 k3); obtain ⟨A1, A2, HR, BW⟩ := DD.out _ B0.out; replace A1 := hid A1; replace A2 := hid A2; replace HR := hid HR; replace BW := hid BW; (try (have hj := cells4 K1.out; obtain ⟨j0, j1, j2, j3⟩ := hj)); (try (have hj := cells4 K2.out; obtain ⟨k0, k1, k2, k3⟩ := hj)))
    | ((with_reducible show wpList _ _ _ _ _ _); first | (refine wpList_cmp (by rfl) _ (by rfl) _ _ _ _ rfl _ (by go_simp; exact rfl) ?_ ?_ <;> (intro hc; (try simp only [decide_eq_true_eq, decide_eq_false_iff_not, Int.not_lt] at hc); (try (simp at hc; done)); go_prune)) | (refine wpList_load_addr (by rfl) _ rfl _ _ _ rfl A1.out H.out.len ?_) | (refine wpList_load_addr (by rfl) _ rfl _ _ _ rfl A2.out H2.out.len ?_))
    | (go_at_call 16; refine (P1.out _ _ _ _ _ _ (by first | exact Or.inl ⟨rfl, rfl, rfl, rfl⟩ | exact Or.inr ⟨rfl, rfl, rfl, rfl⟩) HR.out).mono ?_; rintro en w' ⟨a3, c3, rfl, ho, hb⟩; (try replace R1 := hid (R1.out.below hb)); (try replace R2 := hid (R2.out.below hb)); (try replace R3 := hid (R3.out.below hb)); (try replace R4 := hid (R4.out.below hb)); (try replace K1 := hid (blk_bel K1.out hb)); (try replace K2 := hid (blk_bel K2.out hb)); (first | ((fail_if_success (have := R1)); have R1 := hid (Rb.of_own RB.out ho)) | (have R3 := hid (Rb.of_own RB.out ho))); replace B0 := hid (B0.out.trans (hb.mono B0.out.size)); clear ho hb; clear A1 A2 HR BW; (try clear j0 j1 j2 j3); (try clear k0 k1 k2 k3); obtain ⟨A1, A2, HR, BW⟩ := DD.out _ B0.out; replace A1 := hid A1; replace A2 := hid A2; replace HR := hid HR; replace BW := hid BW; (try (have hj := cells4 K1.out; obtain ⟨j0, j1, j2, j3⟩ := hj)); (try (have hj := cells4 K2.out; obtain ⟨k0, k1, k2, k3⟩ := hj)))
    | (go_at_call 13; refine (P2.out _ _ R1.out).mono ?_; rintro en w' ⟨v2, rfl, ho, hb⟩; (try replace R1 := hid (R1.out.below hb)); (try replace R2 := hid (R2.out.below hb)); (try replace R3 := hid (R3.out.below hb)); (try replace R4 := hid (R4.out.below hb)); (try replace K1 := hid (blk_bel K1.out hb)); (try replace K2 := hid (blk_bel K2.out hb)); have R2 := hid (Rb.of_own RL.out ho); replace B0 := hid (B0.out.trans (hb.mono B0.out.size)); clear ho hb; clear A1 A2 HR BW; (try clear j0 j1 j2 j3); (try clear k0 k1 k2 k3); obtain ⟨A1, A2, HR, BW⟩ := DD.out _ B0.out; replace A1 := hid A1; replace A2 := hid A2; replace HR := hid HR; replace BW := hid BW; (try (have hj := cells4 K1.out; obtain ⟨j0, j1, j2, j3⟩ := hj)); (try (have hj := cells4 K2.out; obtain ⟨k0, k1, k2, k3⟩ := hj)))
    | (go_at_call 12; refine (known_any _).mono ?_; rintro en w' ⟨rfl, hb⟩; (try replace R1 := hid (R1.out.below hb)); (try replace R2 := hid (R2.out.below hb)); (try replace R3 := hid (R3.out.below hb)); (try replace R4 := hid (R4.out.below hb)); (try replace K1 := hid (blk_bel K1.out hb)); (try replace K2 := hid (blk_bel K2.out hb)); replace B0 := hid (B0.out.trans (hb.mono B0.out.size)); clear hb; clear A1 A2 HR BW; (try clear j0 j1 j2 j3); (try clear k0 k1 k2 k3); obtain ⟨A1, A2, HR, BW⟩ := DD.out _ B0.out; replace A1 := hid A1; replace A2 := hid A2; replace HR := hid HR; replace BW := hid BW; (try (have hj := cells4 K1.out; obtain ⟨j0, j1, j2, j3⟩ := hj)); (try (have hj := cells4 K2.out; obtain ⟨k0, k1, k2, k3⟩ := hj)))
    | (go_at_call 10; refine (P3.out _).mono ?_; rintro en w' ⟨rfl, hb⟩; (try replace R1 := hid (R1.out.below hb)); (try replace R2 := hid (R2.out.below hb)); (try replace R3 := hid (R3.out.below hb)); (try replace R4 := hid (R4.out.below hb)); (try replace K1 := hid (blk_bel K1.out hb)); (try replace K2 := hid (blk_bel K2.out hb)); replace B0 := hid (B0.out.trans (hb.mono B0.out.size)); clear hb; clear A1 A2 HR BW; (try clear j0 j1 j2 j3); (try clear k0 k1 k2 k3); obtain ⟨A1, A2, HR, BW⟩ := DD.out _ B0.out; replace A1 := hid A1; replace A2 := hid A2; replace HR := hid HR; replace BW := hid BW; (try (have hj := cells4 K1.out; obtain ⟨j0, j1, j2, j3⟩ := hj)); (try (have hj := cells4 K2.out; obtain ⟨k0, k1, k2, k3⟩ := hj)))
    | (go_at_call 15; refine (k_same _ _ _ _ R2.out HR.out).mono ?_; rintro en w' ⟨rfl, hS⟩; have hb := drw_below hS; (try replace R1 := hid (R1.out.below hb)); (try replace R2 := hid (R2.out.below hb)); (try replace R3 := hid (R3.out.below hb)); (try replace R4 := hid (R4.out.below hb)); (try replace K1 := hid (blk_bel K1.out hb)); (try replace K2 := hid (blk_bel K2.out hb)); replace B0 := hid (B0.out.trans (hS.same.below _)); clear hS hb; clear A1 A2 HR BW; (try clear j0 j1 j2 j3); (try clear k0 k1 k2 k3); obtain ⟨A1, A2, HR, BW⟩ := DD.out _ B0.out; replace A1 := hid A1; replace A2 := hid A2; replace HR := hid HR; replace BW := hid BW; (try (have hj := cells4 K1.out; obtain ⟨j0, j1, j2, j3⟩ := hj)); (try (have hj := cells4 K2.out; obtain ⟨k0, k1, k2, k3⟩ := hj)))
    | (go_at_call 18; refine (SD.out _ _ _ _ _ R3.out R1.out).mono ?_; rintro en w' ⟨rfl, hb⟩; (try replace R1 := hid (R1.out.below hb)); (try replace R2 := hid (R2.out.below hb)); (try replace R3 := hid (R3.out.below hb)); (try replace R4 := hid (R4.out.below hb)); (try replace K1 := hid (blk_bel K1.out hb)); (try replace K2 := hid (blk_bel K2.out hb)); replace B0 := hid (B0.out.trans (hb.mono B0.out.size)); clear hb; clear A1 A2 HR BW; (try clear j0 j1 j2 j3); (try clear k0 k1 k2 k3); obtain ⟨A1, A2, HR, BW⟩ := DD.out _ B0.out; replace A1 := hid A1; replace A2 := hid A2; replace HR := hid HR; replace BW := hid BW; (try (have hj := cells4 K1.out; obtain ⟨j0, j1, j2, j3⟩ := hj)); (try (have hj := cells4 K2.out; obtain ⟨k0, k1, k2, k3⟩ := hj)))
    | (go_at_call 22; refine (P4.out _ HR.out).mono ?_; rintro en w' ⟨rfl, hS⟩; have hb := drw_below hS; (try replace R1 := hid (R1.out.below hb)); (try replace R2 := hid (R2.out.below hb)); (try replace R3 := hid (R3.out.below hb)); (try replace R4 := hid (R4.out.below hb)); (try replace K1 := hid (blk_bel K1.out hb)); (try replace K2 := hid (blk_bel K2.out hb)); replace B0 := hid (B0.out.trans (hS.same.below _)); clear hS hb; clear A1 A2 HR BW; (try clear j0 j1 j2 j3); (try clear k0 k1 k2 k3); obtain ⟨A1, A2, HR, BW⟩ := DD.out _ B0.out; replace A1 := hid A1; replace A2 := hid A2; replace HR := hid HR; replace BW := hid BW; (try (have hj := cells4 K1.out; obtain ⟨j0, j1, j2, j3⟩ := hj)); (try (have hj := cells4 K2.out; obtain ⟨k0, k1, k2, k3⟩ := hj)))
    | (go_at_call 21; refine (P5.out _ _ _ hb3 hb4).mono ?_; rintro en w'' ⟨rfl, rfl⟩))
  all_goals
    go_ret
    refine ⟨?_, BW.out⟩
    first
    | rfl
    | (exfalso
       clear DD P1 P2 SD P3 P4 P5
       have h0 := f4'.out (by simp_all)
       rw [h0] at hc
       simp at hc)
theorem udpForms_any (V : Int) (bs : List Int) (V2 : Int) (bs2 : List Int) (bv : Value) (l : List Int) (w : World) (h : IsA V bs) (h2 : IsA V2 bs2) (hd : Rb w bv l) :
    Calls Try.prog 7 #[addrV V bs, addrV V2 bs2, bv] w (APost w (.bool true)) := by
  by_cases hp : pgE V bs V2 bs2 l = 0
  · exact udpForms_yes V bs V2 bs2 bv l w h h2 hd hp
  · exact udpForms_no V bs V2 bs2 bv l w h h2 hd hp
end Go.Proofs.Ytpiafmnfneefiaa
