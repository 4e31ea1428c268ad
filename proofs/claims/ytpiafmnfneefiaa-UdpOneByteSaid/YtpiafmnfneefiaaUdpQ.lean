/-
  The statements of package udp: sameDgram; UdpBuilds and UdpParses, walked.
-/
import Derived.Test.YtpiafmnfneefiaaUdpO
import Derived.Test.YtpiafmnfneefiaaUdpP
import Derived.Test.YtpiafmnfneefiaaUdpM
namespace Go.Proofs.Ytpiafmnfneefiaa
open Go.RowKit

def sameDg (sp dp : Int) (ns : Bool) (d : List Int) (sp2 dp2 : Int) (ns2 : Bool) (d2 : List Int) : Bool := decide (sp = sp2) && decide (dp = dp2) && (ns == ns2) && decide (d = d2)
theorem sameDg_refl (sp dp : Int) (ns : Bool) (d : List Int) : sameDg sp dp ns d sp dp ns d = true := by simp [sameDg]
set_option maxHeartbeats 1000000 in
set_option maxRecDepth 20000 in
theorem sameDg_any (sp dp : Int) (ns : Bool) (dv : Value) (d : List Int) (sp2 dp2 : Int) (ns2 : Bool) (dv2 : Value) (d2 : List Int) (w : World) (hd : Rb w dv d) (hd2 : Rb w dv2 d2) :
    Calls Try.prog 18 #[.agg #[.int .i64 sp, .int .i64 dp, .bool ns, dv], .agg #[.int .i64 sp2, .int .i64 dp2, .bool ns2, dv2]] w (APost w (.bool (sameDg sp dp ns d sp2 dp2 ns2 d2))) := by
  have HD := hid hd
  have HD2 := hid hd2
  obtain ⟨ad, cd, rfl, hcd, hmd, _⟩ := hd.open
  obtain ⟨ad2, cd2, rfl, hcd2, hmd2, _⟩ := hd2.open
  obtain ⟨a1, a2, bb, hz⟩ := bx2 w (.cells #[.int .i64 sp, .int .i64 dp, .bool ns, .slice ad d.length cd] 35) (.cells #[.int .i64 sp2, .int .i64 dp2, .bool ns2, .slice ad2 d2.length cd2] 35)
  obtain ⟨d0, d1, d2', d3⟩ := cells4 a1
  obtain ⟨e0, e1, e2, e3⟩ := cells4 a2
  have BB := hid bb
  have S := fun W hv hu => same_any (.slice ad d.length cd) (.slice ad2 d2.length cd2) d d2 W hv hu
  have HE := hid (show sameDg sp dp ns d sp2 dp2 ns2 d2 = (decide (sp = sp2) && decide (dp = dp2) && (ns == ns2) && decide (d = d2)) from rfl)
  generalize sameDg sp dp ns d sp2 dp2 ns2 d2 = r at *
  generalize decide (d = d2) = q at *
  have S := hid S
  have HR := hid (hd.below bb)
  have HR2 := hid (hd2.below bb)
  clear a1 a2 bb hd hd2 hz
  go_enter Try.func18, Try.ntmps18
  go_upto_region 1 with fail
  generalize ((w.alloc (.cells #[.int .i64 sp, .int .i64 dp, .bool ns, .slice ad d.length cd] 35)).alloc (.cells #[.int .i64 sp2, .int .i64 dp2, .bool ns2, .slice ad2 d2.length cd2] 35)) = w1 at *
  go_wp2_with (first
    | go_skip
    | ((with_reducible show wpList _ _ _ _ _ _); first | (refine wpList_cmp (by rfl) _ (by rfl) _ _ _ _ rfl _ (by go_simp; exact rfl) ?_ ?_ <;> (intro hc; (try simp only [decide_eq_true_eq, decide_eq_false_iff_not, Int.not_lt] at hc); go_prune)))
    | (go_at_call 15; refine (S.out _ HR.out HR2.out).mono ?_; rintro en w' ⟨rfl, hS⟩; replace BB := hid (BB.out.trans (hS.same.below _)); clear hS d0 d1 d2' d3 e0 e1 e2 e3))
  all_goals
    go_ret
    clear S
    refine ⟨?_, BB.out⟩
    have hr := HE.out
    clear HE
    have key : ∀ x : Bool, r = x → Ending.returned (.bool x) = .returned (.bool r) := fun x h => by rw [h]
    refine key _ ?_
    simp_all
/-- the written bytes are bytes -/
theorem dgL_byt {V : Int} {bs bs2 : List Int} {sp dp : Int} {ns : Bool} {d : List Int} (h : Byt bs) (h2 : Byt bs2) (hs : 0 ≤ sp ∧ sp ≤ 65535) (hd : 0 ≤ dp ∧ dp ≤ 65535) (hb : Byt d) (hl : d.length ≤ 65527) : Byt (dgL V bs bs2 sp dp ns d) := by
  have h3 := dgB_byt hs hd hb hl
  have h4 := dgS_bd (V := V) (bs := bs) (bs2 := bs2) ((headL_byt (V := V) (proto := 17) (n := 8 + (d.length : Int)) h h2 (by omega) (by omega)).append h3)
  unfold dgL
  split
  · exact h3
  · exact (h3.set 6 (by omega) (by omega)).set 7 (by omega) (by omega)
theorem dgE_ok {V : Int} {bs : List Int} {V2 : Int} {bs2 : List Int} {sp dp : Int} {ns : Bool} {d : List Int} (h : dgE V bs V2 bs2 sp dp ns d = 0) : pairA V bs V2 bs2 = true ∧ (0 ≤ sp ∧ sp ≤ 65535) ∧ (0 ≤ dp ∧ dp ≤ 65535) ∧ (ns = true → V ≠ 6) ∧ (d.length : Int) ≤ mostV V := by
  unfold dgE at h
  split at h
  · rename_i hc
    split at h
    · omega
    · rename_i hl
      simp only [Bool.and_eq_true] at hc
      obtain ⟨⟨⟨hp, hs⟩, hd⟩, hn⟩ := hc
      exact ⟨hp, portB_parts hs, portB_parts hd, (fun h6 hV => by subst h6; simp [hV] at hn), by omega⟩
  · omega
theorem mostV_le (V : Int) : mostV V ≤ 65527 := by unfold mostV; split <;> omega
theorem dgR_byt {V : Int} {bs : List Int} {V2 : Int} {bs2 : List Int} {sp dp : Int} {ns : Bool} {d : List Int} (h : Byt bs) (h2 : Byt bs2) (hb : Byt d) : Byt (dgR V bs V2 bs2 sp dp ns d) := by
  unfold dgR
  split
  · rename_i he
    obtain ⟨_, hs, hd, _, hl⟩ := dgE_ok he
    have := mostV_le V
    exact dgL_byt h h2 hs hd hb (by omega)
  · exact Byt.nil

set_option maxHeartbeats 1000000 in
set_option maxRecDepth 20000 in
theorem udpBuilds_any (V : Int) (bs : List Int) (V2 : Int) (bs2 : List Int) (sp dp : Int) (ns : Bool) (dv : Value) (d : List Int) (w : World) (h : IsA V bs) (h2 : IsA V2 bs2) (hd : Rb w dv d) :
    Calls Try.prog 4 #[addrV V bs, addrV V2 bs2, .agg #[.int .i64 sp, .int .i64 dp, .bool ns, dv]] w (APost w (.bool true)) := by
  have H := hid h
  have H2 := hid h2
  have HD := hid hd
  obtain ⟨ad, cd, rfl, hcd, hmd, _⟩ := hd.open
  unfold maxLen at hmd
  obtain ⟨a1, a2, a3, bb, hz⟩ := bx3 w (.cells (addrC V bs) 24) (.cells (addrC V2 bs2) 24) (.cells #[.int .i64 sp, .int .i64 dp, .bool ns, .slice ad d.length cd] 35)
  have DD := hid (fun W (hW : Below (((w.alloc (.cells (addrC V bs) 24)).alloc (.cells (addrC V2 bs2) 24)).alloc (.cells #[.int .i64 sp, .int .i64 dp, .bool ns, .slice ad d.length cd] 35)).heap.size (((w.alloc (.cells (addrC V bs) 24)).alloc (.cells (addrC V2 bs2) 24)).alloc (.cells #[.int .i64 sp, .int .i64 dp, .bool ns, .slice ad d.length cd] 35)) W) => (⟨blk_bel a1 hW, blk_bel a2 hW, (AddrAt.v (blk_bel a1 hW) : W.cell? ⟨w.heap.size, 0, none⟩ = some (.int .i64 V)), cells4 (blk_bel a3 hW), HD.out.below (bb.trans (hW.mono bb.size)), bb.trans (hW.mono bb.size)⟩ : AddrAt W _ V bs ∧ AddrAt W _ V2 bs2 ∧ _ ∧ _ ∧ Rb W (.slice ad d.length cd) d ∧ Below w.heap.size w W))
  have B0 := hid (Below.refl (((w.alloc (.cells (addrC V bs) 24)).alloc (.cells (addrC V2 bs2) 24)).alloc (.cells #[.int .i64 sp, .int .i64 dp, .bool ns, .slice ad d.length cd] 35)).heap.size (((w.alloc (.cells (addrC V bs) 24)).alloc (.cells (addrC V2 bs2) 24)).alloc (.cells #[.int .i64 sp, .int .i64 dp, .bool ns, .slice ad d.length cd] 35)))
  have RB := hid (dgR_byt (V := V) (V2 := V2) (sp := sp) (dp := dp) (ns := ns) h.byt h2.byt hd.byt)
  have P1 := fun W hR => build_any V bs V2 bs2 sp dp ns (.slice ad d.length cd) d W h h2 hR
  have P2 := fun W hR => refBuild_any V bs V2 bs2 sp dp ns (.slice ad d.length cd) d W h h2 hR
  generalize dgE V bs V2 bs2 sp dp ns d = e at *
  generalize dgR V bs V2 bs2 sp dp ns d = r at *
  have P1 := hid P1
  have P2 := hid P2
  clear a1 a2 a3 bb h h2 hd hz
  unfold addrV at *
  go_enter Try.func4, Try.ntmps4
  go_upto_region 1 with fail
  generalize (((w.alloc (.cells (addrC V bs) 24)).alloc (.cells (addrC V2 bs2) 24)).alloc (.cells #[.int .i64 sp, .int .i64 dp, .bool ns, .slice ad d.length cd] 35)) = w1 at *
  obtain ⟨A1, A2, c1, ⟨d0, d1, d2, d3⟩, HR, BW⟩ := DD.out _ B0.out; replace A1 := hid A1; replace A2 := hid A2; replace HR := hid HR; replace BW := hid BW
  have w' := w1
  go_wp2_with (first
    | go_skip
    | ((with_reducible show wpList _ _ _ _ _ _); first | (refine wpList_cmp (by rfl) _ (by rfl) _ _ _ _ rfl _ (by go_simp; exact rfl) ?_ ?_ <;> (intro hc; (try simp only [decide_eq_true_eq, decide_eq_false_iff_not, Int.not_lt] at hc); (try (simp at hc; done)); go_prune)) | (refine wpList_load_addr (by rfl) _ rfl _ _ _ rfl A1.out H.out.len ?_) | (refine wpList_load_addr (by rfl) _ rfl _ _ _ rfl A2.out H2.out.len ?_))
    | (go_at_call 13; refine (P1.out _ HR.out).mono ?_; rintro en w' ⟨v1, rfl, ho, hb⟩; have R1 := hid (Rb.of_own RB.out ho); replace B0 := hid (B0.out.trans (hb.mono B0.out.size)); clear ho hb; clear A1 A2 c1 d0 d1 d2 d3 HR BW; obtain ⟨A1, A2, c1, ⟨d0, d1, d2, d3⟩, HR, BW⟩ := DD.out _ B0.out; replace A1 := hid A1; replace A2 := hid A2; replace HR := hid HR; replace BW := hid BW)
    | (go_at_call 14; refine (P2.out _ HR.out).mono ?_; rintro en w' ⟨v2, rfl, ho, hb⟩; (try replace R1 := hid (R1.out.below hb)); (try replace R2 := hid (R2.out.below hb)); (try replace R3 := hid (R3.out.below hb)); (try replace R4 := hid (R4.out.below hb)); have R2 := hid (Rb.of_own RB.out ho); replace B0 := hid (B0.out.trans (hb.mono B0.out.size)); clear ho hb; clear A1 A2 c1 d0 d1 d2 d3 HR BW; obtain ⟨A1, A2, c1, ⟨d0, d1, d2, d3⟩, HR, BW⟩ := DD.out _ B0.out; replace A1 := hid A1; replace A2 := hid A2; replace HR := hid HR; replace BW := hid BW)
    | (go_at_call 12; refine (known_any _).mono ?_; rintro en w' ⟨rfl, hb⟩; (try replace R1 := hid (R1.out.below hb)); (try replace R2 := hid (R2.out.below hb)); (try replace R3 := hid (R3.out.below hb)); (try replace R4 := hid (R4.out.below hb)); replace B0 := hid (B0.out.trans (hb.mono B0.out.size)); clear hb; clear A1 A2 c1 d0 d1 d2 d3 HR BW; obtain ⟨A1, A2, c1, ⟨d0, d1, d2, d3⟩, HR, BW⟩ := DD.out _ B0.out; replace A1 := hid A1; replace A2 := hid A2; replace HR := hid HR; replace BW := hid BW)
    | (go_at_call 15; refine (k_same _ _ _ _ R1.out R2.out).mono ?_; rintro en w' ⟨rfl, hS⟩; replace B0 := hid (B0.out.trans (hS.same.below _)); clear hS; clear A1 A2 c1 d0 d1 d2 d3 HR BW; obtain ⟨A1, A2, c1, ⟨d0, d1, d2, d3⟩, HR, BW⟩ := DD.out _ B0.out; replace A1 := hid A1; replace A2 := hid A2; replace HR := hid HR; replace BW := hid BW))
  go_ret
  exact ⟨rfl, BW.out⟩

/-! ### what Parse tells, in one form -/
def pg0 (e : Int) (l : List Int) : Int := if e = 0 then wordL l 0 else 0
def pg2 (e : Int) (l : List Int) : Int := if e = 0 then wordL l 2 else 0
def pgN (e : Int) (l : List Int) : Bool := if e = 0 then decide (wordL l 6 = 0) else false
def pgD (e : Int) (l : List Int) : List Int := if e = 0 then l.drop 8 else []
def PgAll (e : Int) (l : List Int) (w : World) (en : Ending) (w' : World) : Prop :=
  ∃ a c, en = .returned (.tuple #[.agg #[.int .i64 (pg0 e l), .int .i64 (pg2 e l), .bool (pgN e l), .slice a (pgD e l).length c], .int .i64 e]) ∧ w'.ownsRow w.heap.size 5 1 (.slice a (pgD e l).length c) (pgD e l).length (bts (pgD e l)) ∧ Below w.heap.size w w'
theorem PgPost.all {e : Int} {l : List Int} {w w' : World} {en : Ending} (h : PgPost e l w en w') : PgAll e l w en w' := by
  obtain ⟨hb, h1, h2⟩ := h
  unfold PgAll pg0 pg2 pgN pgD
  by_cases he : e = 0
  · obtain ⟨v, hv, ho⟩ := h2 he
    subst he
    simp only [if_pos]
    obtain ⟨a, c, hs, _⟩ := own_shape ho
    subst hs
    exact ⟨a, c, hv, ho, hb⟩
  · simp only [if_neg he]
    exact ⟨none, 0, h1 he, World.ownsRow_nil _ _ _ _, hb⟩
theorem pgD_byt {e : Int} {l : List Int} (h : Byt l) : Byt (pgD e l) := by
  unfold pgD; split
  · exact h.drop 8
  · exact Byt.nil
theorem parse_all (V : Int) (bs : List Int) (V2 : Int) (bs2 : List Int) (bv : Value) (l : List Int) (w : World) (h : IsA V bs) (h2 : IsA V2 bs2) (hb : Rb w bv l) :
    Calls Try.prog 16 #[.agg (addrC V bs), .agg (addrC V2 bs2), bv] w (PgAll (pgE V bs V2 bs2 l) l w) := (parse_any V bs V2 bs2 bv l w h h2 hb).mono fun _ _ h => h.all
theorem refParse_all (V : Int) (bs : List Int) (V2 : Int) (bs2 : List Int) (bv : Value) (l : List Int) (w : World) (h : IsA V bs) (h2 : IsA V2 bs2) (hb : Rb w bv l) :
    Calls Try.prog 17 #[.agg (addrC V bs), .agg (addrC V2 bs2), bv] w (PgAll (pgE V bs V2 bs2 l) l w) := (refParse_any V bs V2 bs2 bv l w h h2 hb).mono fun _ _ h => h.all

set_option maxHeartbeats 1000000 in
set_option maxRecDepth 20000 in
theorem udpParses_any (V : Int) (bs : List Int) (V2 : Int) (bs2 : List Int) (bv : Value) (l : List Int) (w : World) (h : IsA V bs) (h2 : IsA V2 bs2) (hd : Rb w bv l) :
    Calls Try.prog 5 #[addrV V bs, addrV V2 bs2, bv] w (APost w (.bool true)) := by
  have H := hid h
  have H2 := hid h2
  have HD := hid hd
  obtain ⟨ad, cd, rfl, hcd, hmd, _⟩ := hd.open
  unfold maxLen at hmd
  obtain ⟨a1, a2, bb, hz⟩ := bx2 w (.cells (addrC V bs) 24) (.cells (addrC V2 bs2) 24)
  have DD := hid (fun W (hW : Below ((w.alloc (.cells (addrC V bs) 24)).alloc (.cells (addrC V2 bs2) 24)).heap.size ((w.alloc (.cells (addrC V bs) 24)).alloc (.cells (addrC V2 bs2) 24)) W) => (⟨blk_bel a1 hW, blk_bel a2 hW, HD.out.below (bb.trans (hW.mono bb.size)), bb.trans (hW.mono bb.size)⟩ : AddrAt W _ V bs ∧ AddrAt W _ V2 bs2 ∧ Rb W (.slice ad l.length cd) l ∧ Below w.heap.size w W))
  have B0 := hid (Below.refl ((w.alloc (.cells (addrC V bs) 24)).alloc (.cells (addrC V2 bs2) 24)).heap.size ((w.alloc (.cells (addrC V bs) 24)).alloc (.cells (addrC V2 bs2) 24)))
  have P1 := fun W hR => parse_all V bs V2 bs2 (.slice ad l.length cd) l W h h2 hR
  have P2 := fun W hR => refParse_all V bs V2 bs2 (.slice ad l.length cd) l W h h2 hR
  generalize pgE V bs V2 bs2 l = e at *
  unfold PgAll at P1 P2
  have RB := hid (pgD_byt (e := e) hd.byt)
  generalize pg0 e l = x0 at *
  generalize pg2 e l = x2 at *
  generalize pgN e l = xn at *
  generalize pgD e l = xd at *
  have SD := hid (fun W a c a2 c2 (h1 : Rb W (.slice a xd.length c) xd) (h2 : Rb W (.slice a2 xd.length c2) xd) => (show Calls _ _ _ W (APost W (.bool true)) from by have := sameDg_any x0 x2 xn _ xd x0 x2 xn _ xd W h1 h2; rwa [sameDg_refl] at this))
  generalize hn : xd.length = n at *
  have P1 := hid P1
  have P2 := hid P2
  have HN := hid hn
  clear a1 a2 bb h h2 hd hz hn
  unfold addrV at *
  go_enter Try.func5, Try.ntmps5
  go_upto_region 1 with fail
  generalize ((w.alloc (.cells (addrC V bs) 24)).alloc (.cells (addrC V2 bs2) 24)) = w1 at *
  obtain ⟨A1, A2, HR, BW⟩ := DD.out _ B0.out; replace A1 := hid A1; replace A2 := hid A2; replace HR := hid HR; replace BW := hid BW
  have w' := w1
  go_wp2_with (first
    | go_skip
    | ((with_reducible show wpList _ _ _ (⟨some 19, _, _, _, _, _⟩ :: _) _ (World.alloc w' _)); refine wpList_world fun w' hw2 => ?_; have K1 := hid (blk_allocW hw2); have hb := below_allocW hw2 (Nat.le_refl _) (Below.refl _ _); (try replace R1 := hid (R1.out.below hb)); (try replace R2 := hid (R2.out.below hb)); (try replace R3 := hid (R3.out.below hb)); (try replace R4 := hid (R4.out.below hb)); replace B0 := hid (below_allocW hw2 (Nat.le_refl _) B0.out); clear hw2 hb; clear A1 A2 HR BW; obtain ⟨A1, A2, HR, BW⟩ := DD.out _ B0.out; replace A1 := hid A1; replace A2 := hid A2; replace HR := hid HR; replace BW := hid BW)
    | ((with_reducible show wpList _ _ _ (⟨some 25, _, _, _, _, _⟩ :: _) _ (World.alloc w' _)); refine wpList_world fun w' hw2 => ?_; have K2 := hid (blk_allocW hw2); have hb := below_allocW hw2 (Nat.le_refl _) (Below.refl _ _); (try replace R1 := hid (R1.out.below hb)); (try replace R2 := hid (R2.out.below hb)); (try replace R3 := hid (R3.out.below hb)); (try replace R4 := hid (R4.out.below hb)); replace K1 := hid (blk_bel K1.out hb); replace B0 := hid (below_allocW hw2 (Nat.le_refl _) B0.out); clear hw2 hb; clear A1 A2 HR BW; obtain ⟨A1, A2, HR, BW⟩ := DD.out _ B0.out; replace A1 := hid A1; replace A2 := hid A2; replace HR := hid HR; replace BW := hid BW)
    | ((with_reducible show wpList _ _ _ _ _ _); first | (refine wpList_cmp (by rfl) _ (by rfl) _ _ _ _ rfl _ (by go_simp; exact rfl) ?_ ?_ <;> (intro hc; (try simp only [decide_eq_true_eq, decide_eq_false_iff_not, Int.not_lt] at hc); (try (simp at hc; done)); go_prune)) | (refine wpList_load_addr (by rfl) _ rfl _ _ _ rfl A1.out H.out.len ?_) | (refine wpList_load_addr (by rfl) _ rfl _ _ _ rfl A2.out H2.out.len ?_))
    | (go_at_call 16; refine (P1.out _ HR.out).mono ?_; rintro en w' ⟨a3, c3, rfl, ho, hb⟩; have R1 := hid (Rb.of_own RB.out ho); replace B0 := hid (B0.out.trans (hb.mono B0.out.size)); clear ho hb; clear A1 A2 HR BW; obtain ⟨A1, A2, HR, BW⟩ := DD.out _ B0.out; replace A1 := hid A1; replace A2 := hid A2; replace HR := hid HR; replace BW := hid BW)
    | (go_at_call 17; refine (P2.out _ HR.out).mono ?_; rintro en w' ⟨a4, c4, rfl, ho, hb⟩; (try replace R1 := hid (R1.out.below hb)); (try replace R2 := hid (R2.out.below hb)); (try replace R3 := hid (R3.out.below hb)); (try replace R4 := hid (R4.out.below hb)); have R2 := hid (Rb.of_own RB.out ho); replace K1 := hid (blk_bel K1.out hb); replace B0 := hid (B0.out.trans (hb.mono B0.out.size)); clear ho hb; clear A1 A2 HR BW; obtain ⟨A1, A2, HR, BW⟩ := DD.out _ B0.out; replace A1 := hid A1; replace A2 := hid A2; replace HR := hid HR; replace BW := hid BW)
    | (go_at_call 12; refine (known_any _).mono ?_; rintro en w' ⟨rfl, hb⟩; (try replace R1 := hid (R1.out.below hb)); (try replace R2 := hid (R2.out.below hb)); (try replace R3 := hid (R3.out.below hb)); (try replace R4 := hid (R4.out.below hb)); obtain ⟨j0, j1, j2, j3⟩ := cells4 (blk_bel K1.out hb); obtain ⟨k0, k1, k2, k3⟩ := cells4 (blk_bel K2.out hb); replace B0 := hid (B0.out.trans (hb.mono B0.out.size)); clear hb; clear A1 A2 HR BW; obtain ⟨A1, A2, HR, BW⟩ := DD.out _ B0.out; replace A1 := hid A1; replace A2 := hid A2; replace HR := hid HR; replace BW := hid BW)
    | (go_at_call 18; refine (SD.out _ _ _ _ _ R1.out R2.out).mono ?_; rintro en w' ⟨rfl, hb⟩; replace B0 := hid (B0.out.trans (hb.mono B0.out.size)); clear hb; clear A1 A2 HR BW; obtain ⟨A1, A2, HR, BW⟩ := DD.out _ B0.out; replace A1 := hid A1; replace A2 := hid A2; replace HR := hid HR; replace BW := hid BW))
  go_ret
  exact ⟨rfl, BW.out⟩
end Go.Proofs.Ytpiafmnfneefiaa
