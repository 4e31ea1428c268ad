/-
  The statement UdpBack, walked.
-/
import Derived.Test.YtpiafmnfneefiaaUdpV
import Derived.Test.YtpiafmnfneefiaaUdpW
namespace Go.Proofs.Ytpiafmnfneefiaa
open Go.RowKit

theorem wp_world {P : Program} {c : Code} {Q : Exit → Act → World → Prop} {w : World} {a : Act} (h : ∀ w2, w2 = w → c.wp P Q a w2) : c.wp P Q a w := h w rfl
theorem OwnB.at {base : Nat} {w : World} {g n c : Nat} {L : List Int} (h : OwnB base w (.slice (some ⟨g, 0, none⟩) n c) L) {j : Nat} (hj : j < L.length) : w.cell? ⟨g, j, none⟩ = some (.int .u8 (gt L j)) := by
  obtain ⟨g', c', hv, _, _, hc⟩ := h.open (by omega)
  simp only [Value.slice.injEq, Option.some.injEq, Addr.mk.injEq, and_true] at hv
  obtain ⟨rfl, -, rfl⟩ := hv
  exact (hc j hj).1
theorem OwnB.frz {base : Nat} {w : World} {g n c : Nat} {L : List Int} (h : OwnB base w (.slice (some ⟨g, 0, none⟩) n c) L) {j : Nat} (hj : j < L.length) : w.frozen? ⟨g, j, none⟩ = false := by
  obtain ⟨g', c', hv, _, _, hc⟩ := h.open (by omega)
  simp only [Value.slice.injEq, Option.some.injEq, Addr.mk.injEq, and_true] at hv
  obtain ⟨rfl, -, rfl⟩ := hv
  exact (hc j hj).2
/-- bytes of the call's own that are told, with no error -/
def BdPost (n : Nat) (l : List Int) (w : World) (en : Ending) (w' : World) : Prop :=
  ∃ g c, en = .returned (.tuple #[.slice (some ⟨g, 0, none⟩) n c, .int .i64 0]) ∧ OwnB w.heap.size w' (.slice (some ⟨g, 0, none⟩) n c) l ∧ Below w.heap.size w w'
theorem DgPost.bd {l : List Int} {n : Nat} {w w' : World} {en : Ending} (h : DgPost 0 l w en w') (hn : l.length = n) (h0 : 0 < n) : BdPost n l w en w' := by
  obtain ⟨v, rfl, ho, hb⟩ := h
  obtain ⟨g, c, rfl, _⟩ := OwnB.open ⟨ho, hb.size⟩ (by omega)
  rw [hn] at ho ⊢
  exact ⟨g, c, rfl, ⟨by rw [hn]; exact ho, hb.size⟩, hb⟩
/-- what the made datagram's bytes are -/
structure Made (V : Int) (bs bs2 : List Int) (sp dp : Int) (ns : Bool) (d r : List Int) (n : Nat) : Prop where
  len : r.length = n
  eight : n = 8 + d.length
  byt : Byt r
  small : n ≤ 65535
  ok : dgE V bs V bs2 sp dp ns d = 0
  is : dgR V bs V bs2 sp dp ns d = r
  back : pgE V bs V bs2 r = 0
  b0 : wordL r 0 = sp
  b2 : wordL r 2 = dp
  b4 : wordL r 4 = n
  b6 : decide (wordL r 6 = 0) = ns
  b8 : r.drop 8 = d
  ps : pseOk V bs V bs2 17 n = true
  sum : ns = false → foldL (partL (headL V bs bs2 17 n) + partL r) = 65535
theorem made (six : Bool) {V : Int} {bs : List Int} {V2 : Int} {bs2 : List Int} (h : IsA V bs) (h2 : IsA V2 bs2) (sp dp : Int) (ns : Bool) {l : List Int} (hb : Byt l) (hns : ns = true → six = false) :
    Made (adV six) (adL six bs) (adL six bs2) (sp % 65536) (dp % 65536) ns (l.take (dmN six l.length)) (dgL (adV six) (adL six bs) (adL six bs2) (sp % 65536) (dp % 65536) ns (l.take (dmN six l.length))) (8 + dmN six l.length) := by
  obtain ⟨m1, m2, m3⟩ := dmN_le six l.length
  have i1 := ad_is six h
  have i2 := ad_is six h2
  have hdl : (l.take (dmN six l.length)).length = dmN six l.length := by simp; omega
  have hE := dg_of (ad_pair six bs bs2) (sp := sp % 65536) (dp := dp % 65536) (ns := ns) (d := l.take (dmN six l.length)) (by omega) (by omega) (fun hn => by rw [hns hn]; decide) (by rw [hdl]; exact m2)
  obtain ⟨p1, p2, p3, p4, p5, p6⟩ := back_form i1.byt i2.byt i1.len i2.len (hb.take _) hE
  have hlen := dgL_len (adV six) (adL six bs) (adL six bs2) (sp % 65536) (dp % 65536) ns (l.take (dmN six l.length))
  rw [hdl] at hlen
  have hR : dgR (adV six) (adL six bs) (adV six) (adL six bs2) (sp % 65536) (dp % 65536) ns (l.take (dmN six l.length)) = dgL (adV six) (adL six bs) (adL six bs2) (sp % 65536) (dp % 65536) ns (l.take (dmN six l.length)) := by unfold dgR; rw [if_pos hE]
  have hByt : Byt (dgL (adV six) (adL six bs) (adL six bs2) (sp % 65536) (dp % 65536) ns (l.take (dmN six l.length))) := by rw [← hR]; exact dgR_byt i1.byt i2.byt (hb.take _)
  obtain ⟨q1, q2⟩ := form_sum i1.byt i2.byt i1.len i2.len hByt p1
  rw [hlen] at q1 q2
  rw [hdl] at p4
  exact ⟨hlen, by rw [hdl], hByt, by omega, hE, hR, p1, p2, p3, by rw [p4]; omega, p5, p6, q1, fun hn => q2 (by rw [hn] at p5; have := of_decide_eq_false p5; rw [hn]; exact this)⟩

theorem addr_size : (Try.prog.info? 35).map (·.size) = some 4 := by kernel_rfl
set_option maxHeartbeats 2000000 in
set_option maxRecDepth 20000 in
theorem udpBack_any (V : Int) (bs : List Int) (V2 : Int) (bs2 : List Int) (sp dp : Int) (ns : Bool) (dv : Value) (l : List Int) (six : Bool) (w : World) (h : IsA V bs) (h2 : IsA V2 bs2) (hd : Rb w dv l) :
    Calls Try.prog 6 #[addrV V bs, addrV V2 bs2, .agg #[.int .i64 sp, .int .i64 dp, .bool ns, dv], .bool six] w (APost w (.bool true)) := by
  have H := hid h
  have H2 := hid h2
  have HD := hid hd
  have I1 := hid (ad_is six h)
  have I2 := hid (ad_is six h2)
  have MD := made six h h2 sp dp (ns && !six) hd.byt (fun hn => by cases six <;> simp_all)
  obtain ⟨ad, cd, rfl, hcd, hmd, _⟩ := hd.open
  unfold maxLen at hmd
  obtain ⟨a1, a2, a3, bb, hz⟩ := bx3 w (.cells (addrC V bs) 24) (.cells (addrC V2 bs2) 24) (.cells #[.int .i64 sp, .int .i64 dp, .bool ns, .slice ad l.length cd] 35)
  have A1 := hid (show AddrAt (((w.alloc (.cells (addrC V bs) 24)).alloc (.cells (addrC V2 bs2) 24)).alloc (.cells #[.int .i64 sp, .int .i64 dp, .bool ns, .slice ad l.length cd] 35)) _ V bs from a1)
  have A2 := hid (show AddrAt (((w.alloc (.cells (addrC V bs) 24)).alloc (.cells (addrC V2 bs2) 24)).alloc (.cells #[.int .i64 sp, .int .i64 dp, .bool ns, .slice ad l.length cd] 35)) _ V2 bs2 from a2)
  have K3 := hid a3
  have BW := hid bb
  have HF := hid ((hd.front (dmN six l.length) (dmN_le six l.length).1))
  have DG := hid (fun W => dgram_any sp dp ns ad cd l.length six W hcd (by omega))
  have ADR := hid (fun W U us (hc : (U = V ∧ us = bs) ∨ (U = V2 ∧ us = bs2)) => (show Calls Try.prog 19 #[.agg (addrC U us), .bool six] W (APost W (.agg (addrC (adV six) (adL six us)))) from by rcases hc with ⟨rfl, rfl⟩ | ⟨rfl, rfl⟩; exact address_any _ _ six W h; exact address_any _ _ six W h2))
  clear a1 a2 a3 bb h h2 hd hz
  unfold addrV at *
  go_enter Try.func6, Try.ntmps6
  go_upto_region 1 with fail
  generalize (((w.alloc (.cells (addrC V bs) 24)).alloc (.cells (addrC V2 bs2) 24)).alloc (.cells #[.int .i64 sp, .int .i64 dp, .bool ns, .slice ad l.length cd] 35)) = w' at *
  generalize hV' : adV six = V' at *
  generalize hb1 : adL six bs = b1 at *
  generalize hb2 : adL six bs2 = b2 at *
  have HB1 := hid hb1
  have HB2 := hid hb2
  clear hV' hb1 hb2
  go_upto_region 4 with (first
    | go_skip
    | ((with_reducible show wpList _ _ _ _ _ _)
       first
       | (refine wpList_load_addr (by rfl) _ rfl _ _ _ rfl A1.out (by first | exact H.out.len | exact I1.out.len) ?_)
       | (refine wpList_load_addr (by rfl) _ rfl _ _ _ rfl A2.out (by first | exact H2.out.len | exact I2.out.len) ?_)
       | (refine wpList_load_blk (by rfl) 35 _ rfl _ rfl _ _ _ K3.out _ Try.underlying35 rfl (by rw [addr_size]; rfl) ?_)
       | (refine wpList_store_addr (by rfl) _ _ rfl rfl _ _ _ rfl rfl _ _ A1.out I1.out.len H.out.len ?_; intro w' hA hS; replace A2 := hid ((hS.block _ (by omega)).trans A2.out); replace K3 := hid ((hS.block _ (by omega)).trans K3.out); replace BW := hid (BW.out.trans (hS.below (by omega))); replace A1 := hid hA; clear hA hS)
       | (refine wpList_store_addr (by rfl) _ _ rfl rfl _ _ _ rfl rfl _ _ A2.out I2.out.len H2.out.len ?_; intro w' hA hS; replace A1 := hid ((hS.block _ (by omega)).trans A1.out); replace K3 := hid ((hS.block _ (by omega)).trans K3.out); replace BW := hid (BW.out.trans (hS.below (by omega))); replace A2 := hid hA; clear hA hS))
    | (go_at_call 19; refine (ADR.out _ _ _ (by first | exact Or.inl ⟨rfl, rfl⟩ | exact Or.inr ⟨rfl, rfl⟩)).mono ?_; rintro en w' ⟨rfl, hb⟩; (try simp only [HB1.out]); (try simp only [HB2.out]); replace A1 := hid (blk_bel A1.out hb); replace A2 := hid (blk_bel A2.out hb); replace K3 := hid (blk_bel K3.out hb); replace BW := hid (BW.out.trans (hb.mono BW.out.size)); clear hb)
    | (go_at_call 20; refine (DG.out _).mono ?_; rintro en w' ⟨rfl, hb⟩; replace A1 := hid (blk_bel A1.out hb); replace A2 := hid (blk_bel A2.out hb); replace BW := hid (BW.out.trans (hb.mono BW.out.size)); clear hb))
  refine wp_world fun w5 hw5 => ?_
  have K0 := blk_allocW hw5
  have hb := below_allocW hw5 (Nat.le_refl _) (Below.refl _ _)
  have a1 := blk_bel A1.out hb
  have a2 := blk_bel A2.out hb
  have bw := BW.out.trans (hb.mono BW.out.size)
  clear hw5 hb A1 A2 BW K3 ADR DG HB1 HB2
  have hml : (l.take (dmN six l.length)).length = dmN six l.length := by have := MD.eight; omega
  generalize sp % 65536 = sp' at *
  generalize dp % 65536 = dp' at *
  generalize (ns && !six) = ns' at *
  generalize dgL V' b1 b2 sp' dp' ns' (l.take (dmN six l.length)) = r at *
  generalize l.take (dmN six l.length) = d at *
  generalize dmN six l.length = m at *
  have DD := hid (fun W (hW : Below w5.heap.size w5 W) => (⟨blk_bel a1 hW, blk_bel a2 hW, cells4 (blk_bel K0 hW), HF.out.below (bw.trans (hW.mono bw.size)), bw.trans (hW.mono bw.size)⟩ : AddrAt W _ V' b1 ∧ AddrAt W _ V' b2 ∧ _ ∧ Rb W (.slice ad m cd) d ∧ Below w.heap.size w W))
  have B0 := hid (Below.refl w5.heap.size w5)
  have hsm := MD.small
  have P2 := hid (fun W dv (hR : Rb W dv d) => (show Calls Try.prog 13 #[.agg (addrC V' b1), .agg (addrC V' b2), .agg #[.int .i64 sp', .int .i64 dp', .bool ns', dv]] W (BdPost (8 + m) r W) from
    (build_any V' b1 V' b2 sp' dp' ns' dv d W I1.out I2.out hR).mono fun en w' hp => by rw [MD.ok, MD.is] at hp; exact hp.bd MD.len (by omega)))
  have P1 := fun W v (hR : Rb W v r) => parse_all V' b1 V' b2 v r W I1.out I2.out hR
  rw [MD.back] at P1
  unfold PgAll pg0 pg2 pgN pgD at P1
  simp only [if_pos] at P1
  rw [MD.b0, MD.b2, MD.b6, MD.b8, hml] at P1
  have P1 := hid P1
  have SD := hid (fun W a c (h1 : Rb W (.slice a m c) d) (h2 : Rb W (.slice ad m cd) d) => (show Calls _ _ _ W (APost W (.bool true)) from by have := sameDg_any sp' dp' ns' _ d sp' dp' ns' _ d W h1 h2; rwa [sameDg_refl] at this))
  have PS := hid (fun W (x : Int) (hx : x = ((8 + m : Nat) : Int)) => (show Calls Try.prog 10 #[.agg (addrC V' b1), .agg (addrC V' b2), .int .i64 17, .int .i64 x] W (APost W (.tuple #[.int .u16 (partL (headL V' b1 b2 17 ((8 + m : Nat) : Int))), .int .i64 0])) from by rw [hx]; exact pseudo_yes V' b1 V' b2 17 ((8 + m : Nat) : Int) W I1.out I2.out MD.ps))
  have P4 := hid (fun W v hR => (part_any v r W hR (by rw [MD.len]; omega) : Calls _ _ _ W (PartPost r W)))
  unfold PartPost at P4
  have hb3 := partL_bd (headL_byt (V := V') (proto := 17) (n := ((8 + m : Nat) : Int)) I1.out.byt I2.out.byt (by omega) (by omega))
  have hb4 := partL_bd MD.byt
  have SU := hid MD.sum
  have P5 := hid (fun W (a b : Int) (h1 : 0 ≤ a ∧ a ≤ 65535) (h2 : 0 ≤ b ∧ b ≤ 65535) => add_any a b W h1.1 h1.2 h2.1 h2.2)
  generalize partL (headL V' b1 b2 17 ((8 + m : Nat) : Int)) = p3 at *
  generalize partL r = p4 at *
  have RL := hid MD.byt
  have RB := hid (show Byt d by rw [← MD.b8]; exact MD.byt.drop 8)
  have y4 := MD.byt.bd 4; have y5 := MD.byt.bd 5; have y6 := MD.byt.bd 6; have y7 := MD.byt.bd 7
  have Y4 : Hid (gt r 4 * 256 + gt r 5 = ((8 + m : Nat) : Int)) := hid (by have h4 := MD.b4; have : wordL r 4 = 256 * gt r 4 + gt r 5 := rfl; omega)
  have Y6 : Hid (decide (256 * gt r 6 + gt r 7 = 0) = ns') := hid MD.b6
  have QF := hid (fun W base g n c (hO : OwnB base W (.slice (some ⟨g, 0, none⟩) n c) r) => (⟨hO.at (j := 4) (by rw [MD.len]; omega), hO.at (j := 5) (by rw [MD.len]; omega), hO.at (j := 6) (by rw [MD.len]; omega), hO.at (j := 7) (by rw [MD.len]; omega)⟩ : _ ∧ _ ∧ _ ∧ _))
  generalize gt r 4 = z4 at *
  generalize gt r 5 = z5 at *
  generalize gt r 6 = z6 at *
  generalize gt r 7 = z7 at *
  have HML := hid hml
  clear MD a1 a2 bw K0 hml HF HD
  obtain ⟨A1, A2, ⟨d0, d1, d2, d3⟩, HR, BW⟩ := DD.out _ B0.out; replace A1 := hid A1; replace A2 := hid A2; replace HR := hid HR; replace BW := hid BW
  have w' := w5
  go_wp2_with (first
    | go_skip
    | ((with_reducible show wpList _ _ _ (⟨some 42, _, _, _, _, _⟩ :: _) _ (World.alloc w' _)); refine wpList_world fun w' hw2 => ?_; have K1 := hid (blk_allocW hw2); have hb := below_allocW hw2 (Nat.le_refl _) (Below.refl _ _); (try replace R1 := hid (R1.out.below hb)); (try replace R2 := hid (R2.out.below hb)); (try replace R3 := hid (R3.out.below hb)); (try replace R4 := hid (R4.out.below hb)); replace O1 := hid (O1.out.below hb); replace B0 := hid (below_allocW hw2 (Nat.le_refl _) B0.out); clear hw2 hb; clear A1 A2 d0 d1 d2 d3 HR BW; (try clear j0 j1 j2 j3); (try clear k0 k1 k2 k3); (try clear q4 q5 q6 q7); obtain ⟨A1, A2, ⟨d0, d1, d2, d3⟩, HR, BW⟩ := DD.out _ B0.out; replace A1 := hid A1; replace A2 := hid A2; replace HR := hid HR; replace BW := hid BW; (try (have hj := cells4 K1.out; obtain ⟨j0, j1, j2, j3⟩ := hj)); (try (have hj := cells4 K2.out; obtain ⟨k0, k1, k2, k3⟩ := hj)); (try (have hq := QF.out _ _ _ _ _ O1.out; obtain ⟨q4, q5, q6, q7⟩ := hq)))
    | ((with_reducible show Code.wp _ (Code.region 10 _ true) _ _ _)
       go_quiet (fail)
       obtain ⟨w3, hw3⟩ : ∃ w3, w3 = w'.drewN nq := ⟨_, rfl⟩
       rw [← hw3]
       have hb : Below w'.heap.size w' w3 := by rw [hw3]; exact (Same.drewN _ _).below _
       have w' := w3
       (try replace O1 := hid (O1.out.below hb)); (try replace O2 := hid (O2.out.below hb)); (try replace R1 := hid (R1.out.below hb)); (try replace R2 := hid (R2.out.below hb)); (try replace R3 := hid (R3.out.below hb)); (try replace R4 := hid (R4.out.below hb)); (try replace K1 := hid (blk_bel K1.out hb)); (try replace K2 := hid (blk_bel K2.out hb))
       replace B0 := hid (B0.out.trans (hb.mono B0.out.size))
       clear hb hw3
       clear A1 A2 d0 d1 d2 d3 HR BW; (try clear j0 j1 j2 j3); (try clear k0 k1 k2 k3); (try clear q4 q5 q6 q7); obtain ⟨A1, A2, ⟨d0, d1, d2, d3⟩, HR, BW⟩ := DD.out _ B0.out; replace A1 := hid A1; replace A2 := hid A2; replace HR := hid HR; replace BW := hid BW; (try (have hj := cells4 K1.out; obtain ⟨j0, j1, j2, j3⟩ := hj)); (try (have hj := cells4 K2.out; obtain ⟨k0, k1, k2, k3⟩ := hj)); (try (have hq := QF.out _ _ _ _ _ O1.out; obtain ⟨q4, q5, q6, q7⟩ := hq)))
    | ((with_reducible show wpList _ _ _ _ _ _)
       first
       | (refine wpList_cmp (by rfl) _ (by rfl) _ _ _ _ rfl _ (by go_simp; exact rfl) ?_ ?_ <;> (intro hc; (try simp only [decide_eq_true_eq, decide_eq_false_iff_not, Int.not_lt] at hc); (try (simp at hc; done)); go_prune))
       | (refine wpList_load_addr (by rfl) _ rfl _ _ _ rfl A1.out I1.out.len ?_)
       | (refine wpList_load_addr (by rfl) _ rfl _ _ _ rfl A2.out I2.out.len ?_))
    | (go_at_call 13; refine (P2.out _ _ (by first | exact HR.out | exact R1.out)).mono ?_; rintro en w' ⟨g1, c1, rfl, hO, hb⟩; (try replace O1 := hid (O1.out.below hb)); (try replace O2 := hid (O2.out.below hb)); (try replace R1 := hid (R1.out.below hb)); (try replace R2 := hid (R2.out.below hb)); (try replace R3 := hid (R3.out.below hb)); (try replace R4 := hid (R4.out.below hb)); (try replace K1 := hid (blk_bel K1.out hb)); (try replace K2 := hid (blk_bel K2.out hb)); (first | ((fail_if_success (have := O1)); have O1 := hid hO) | (have O2 := hid hO)); replace B0 := hid (B0.out.trans (hb.mono B0.out.size)); clear hO hb; clear A1 A2 d0 d1 d2 d3 HR BW; (try clear j0 j1 j2 j3); (try clear k0 k1 k2 k3); (try clear q4 q5 q6 q7); obtain ⟨A1, A2, ⟨d0, d1, d2, d3⟩, HR, BW⟩ := DD.out _ B0.out; replace A1 := hid A1; replace A2 := hid A2; replace HR := hid HR; replace BW := hid BW; (try (have hj := cells4 K1.out; obtain ⟨j0, j1, j2, j3⟩ := hj)); (try (have hj := cells4 K2.out; obtain ⟨k0, k1, k2, k3⟩ := hj)); (try (have hq := QF.out _ _ _ _ _ O1.out; obtain ⟨q4, q5, q6, q7⟩ := hq)))
    | (go_at_call 16; refine (P1.out _ _ (O1.out.rb RL.out)).mono ?_; rintro en w' ⟨a3, c3, rfl, ho, hb⟩; (try replace O1 := hid (O1.out.below hb)); (try replace O2 := hid (O2.out.below hb)); (try replace R1 := hid (R1.out.below hb)); (try replace R2 := hid (R2.out.below hb)); (try replace R3 := hid (R3.out.below hb)); (try replace R4 := hid (R4.out.below hb)); (try replace K1 := hid (blk_bel K1.out hb)); (try replace K2 := hid (blk_bel K2.out hb)); have R1 := hid (Rb.of_own RB.out ho); replace B0 := hid (B0.out.trans (hb.mono B0.out.size)); clear ho hb; clear A1 A2 d0 d1 d2 d3 HR BW; (try clear j0 j1 j2 j3); (try clear k0 k1 k2 k3); (try clear q4 q5 q6 q7); obtain ⟨A1, A2, ⟨d0, d1, d2, d3⟩, HR, BW⟩ := DD.out _ B0.out; replace A1 := hid A1; replace A2 := hid A2; replace HR := hid HR; replace BW := hid BW; (try (have hj := cells4 K1.out; obtain ⟨j0, j1, j2, j3⟩ := hj)); (try (have hj := cells4 K2.out; obtain ⟨k0, k1, k2, k3⟩ := hj)); (try (have hq := QF.out _ _ _ _ _ O1.out; obtain ⟨q4, q5, q6, q7⟩ := hq)))
    | (go_at_call 12; refine (known_any _).mono ?_; rintro en w' ⟨rfl, hb⟩; (try replace O1 := hid (O1.out.below hb)); (try replace O2 := hid (O2.out.below hb)); (try replace R1 := hid (R1.out.below hb)); (try replace R2 := hid (R2.out.below hb)); (try replace R3 := hid (R3.out.below hb)); (try replace R4 := hid (R4.out.below hb)); (try replace K1 := hid (blk_bel K1.out hb)); (try replace K2 := hid (blk_bel K2.out hb)); replace B0 := hid (B0.out.trans (hb.mono B0.out.size)); clear hb; clear A1 A2 d0 d1 d2 d3 HR BW; (try clear j0 j1 j2 j3); (try clear k0 k1 k2 k3); (try clear q4 q5 q6 q7); obtain ⟨A1, A2, ⟨d0, d1, d2, d3⟩, HR, BW⟩ := DD.out _ B0.out; replace A1 := hid A1; replace A2 := hid A2; replace HR := hid HR; replace BW := hid BW; (try (have hj := cells4 K1.out; obtain ⟨j0, j1, j2, j3⟩ := hj)); (try (have hj := cells4 K2.out; obtain ⟨k0, k1, k2, k3⟩ := hj)); (try (have hq := QF.out _ _ _ _ _ O1.out; obtain ⟨q4, q5, q6, q7⟩ := hq)))
    | (go_at_call 18; refine (SD.out _ _ _ R1.out HR.out).mono ?_; rintro en w' ⟨rfl, hb⟩; (try replace O1 := hid (O1.out.below hb)); (try replace O2 := hid (O2.out.below hb)); (try replace R1 := hid (R1.out.below hb)); (try replace R2 := hid (R2.out.below hb)); (try replace R3 := hid (R3.out.below hb)); (try replace R4 := hid (R4.out.below hb)); (try replace K1 := hid (blk_bel K1.out hb)); (try replace K2 := hid (blk_bel K2.out hb)); replace B0 := hid (B0.out.trans (hb.mono B0.out.size)); clear hb; clear A1 A2 d0 d1 d2 d3 HR BW; (try clear j0 j1 j2 j3); (try clear k0 k1 k2 k3); (try clear q4 q5 q6 q7); obtain ⟨A1, A2, ⟨d0, d1, d2, d3⟩, HR, BW⟩ := DD.out _ B0.out; replace A1 := hid A1; replace A2 := hid A2; replace HR := hid HR; replace BW := hid BW; (try (have hj := cells4 K1.out; obtain ⟨j0, j1, j2, j3⟩ := hj)); (try (have hj := cells4 K2.out; obtain ⟨k0, k1, k2, k3⟩ := hj)); (try (have hq := QF.out _ _ _ _ _ O1.out; obtain ⟨q4, q5, q6, q7⟩ := hq)))
    | (go_at_call 15; refine (k_same _ _ _ r (O2.out.rb RL.out) (O1.out.rb RL.out)).mono ?_; rintro en w' ⟨rfl, hS⟩; have hb := drw_below hS; (try replace O1 := hid (O1.out.below hb)); (try replace O2 := hid (O2.out.below hb)); (try replace R1 := hid (R1.out.below hb)); (try replace R2 := hid (R2.out.below hb)); (try replace R3 := hid (R3.out.below hb)); (try replace R4 := hid (R4.out.below hb)); (try replace K1 := hid (blk_bel K1.out hb)); (try replace K2 := hid (blk_bel K2.out hb)); replace B0 := hid (B0.out.trans (hb.mono B0.out.size)); clear hS hb; clear A1 A2 d0 d1 d2 d3 HR BW; (try clear j0 j1 j2 j3); (try clear k0 k1 k2 k3); (try clear q4 q5 q6 q7); obtain ⟨A1, A2, ⟨d0, d1, d2, d3⟩, HR, BW⟩ := DD.out _ B0.out; replace A1 := hid A1; replace A2 := hid A2; replace HR := hid HR; replace BW := hid BW; (try (have hj := cells4 K1.out; obtain ⟨j0, j1, j2, j3⟩ := hj)); (try (have hj := cells4 K2.out; obtain ⟨k0, k1, k2, k3⟩ := hj)); (try (have hq := QF.out _ _ _ _ _ O1.out; obtain ⟨q4, q5, q6, q7⟩ := hq)))
    | (go_at_call 10; refine (PS.out _ _ (by omega)).mono ?_; rintro en w' ⟨rfl, hb⟩; (try replace O1 := hid (O1.out.below hb)); (try replace O2 := hid (O2.out.below hb)); (try replace R1 := hid (R1.out.below hb)); (try replace R2 := hid (R2.out.below hb)); (try replace R3 := hid (R3.out.below hb)); (try replace R4 := hid (R4.out.below hb)); (try replace K1 := hid (blk_bel K1.out hb)); (try replace K2 := hid (blk_bel K2.out hb)); replace B0 := hid (B0.out.trans (hb.mono B0.out.size)); clear hb; clear A1 A2 d0 d1 d2 d3 HR BW; (try clear j0 j1 j2 j3); (try clear k0 k1 k2 k3); (try clear q4 q5 q6 q7); obtain ⟨A1, A2, ⟨d0, d1, d2, d3⟩, HR, BW⟩ := DD.out _ B0.out; replace A1 := hid A1; replace A2 := hid A2; replace HR := hid HR; replace BW := hid BW; (try (have hj := cells4 K1.out; obtain ⟨j0, j1, j2, j3⟩ := hj)); (try (have hj := cells4 K2.out; obtain ⟨k0, k1, k2, k3⟩ := hj)); (try (have hq := QF.out _ _ _ _ _ O1.out; obtain ⟨q4, q5, q6, q7⟩ := hq)))
    | (go_at_call 22; refine (P4.out _ _ (O1.out.rb RL.out)).mono ?_; rintro en w' ⟨rfl, hS⟩; have hb := drw_below hS; (try replace O1 := hid (O1.out.below hb)); (try replace O2 := hid (O2.out.below hb)); (try replace R1 := hid (R1.out.below hb)); (try replace R2 := hid (R2.out.below hb)); (try replace R3 := hid (R3.out.below hb)); (try replace R4 := hid (R4.out.below hb)); (try replace K1 := hid (blk_bel K1.out hb)); (try replace K2 := hid (blk_bel K2.out hb)); replace B0 := hid (B0.out.trans (hb.mono B0.out.size)); clear hS hb; clear A1 A2 d0 d1 d2 d3 HR BW; (try clear j0 j1 j2 j3); (try clear k0 k1 k2 k3); (try clear q4 q5 q6 q7); obtain ⟨A1, A2, ⟨d0, d1, d2, d3⟩, HR, BW⟩ := DD.out _ B0.out; replace A1 := hid A1; replace A2 := hid A2; replace HR := hid HR; replace BW := hid BW; (try (have hj := cells4 K1.out; obtain ⟨j0, j1, j2, j3⟩ := hj)); (try (have hj := cells4 K2.out; obtain ⟨k0, k1, k2, k3⟩ := hj)); (try (have hq := QF.out _ _ _ _ _ O1.out; obtain ⟨q4, q5, q6, q7⟩ := hq)))
    | (go_at_call 21; refine (P5.out _ _ _ hb3 hb4).mono ?_; rintro en w'' ⟨rfl, rfl⟩))
  all_goals
    go_ret
    refine ⟨?_, BW.out⟩
    first
    | rfl
    | (exfalso
       have e4 := Y4.out
       have e6 := Y6.out
       have su := SU.out
       clear DD P1 P2 SD PS P4 P5 QF
       clear A1 A2 d0 d1 d2 d3 q4 q5 q6 q7 Y4 Y6 SU
       first
       | omega
       | (simp at *; omega)
       | (simp at *; simp_all; done)
       | (simp at *; simp_all; omega))
  all_goals trace_state
  all_goals sorry
end Go.Proofs.Ytpiafmnfneefiaa
