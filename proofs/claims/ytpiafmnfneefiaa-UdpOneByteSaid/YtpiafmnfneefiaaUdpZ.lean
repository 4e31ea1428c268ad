/-
  The statement UdpOneByte, walked.
-/
import Derived.Test.YtpiafmnfneefiaaL07B
namespace Go.Proofs.Ytpiafmnfneefiaa
open Go.RowKit

theorem stored_putb {base : Nat} {w w2 : World} {g n c k : Nat} {L : List Int} {x : Int} (hw : w2 = w.setCell ⟨g, k, none⟩ (.int .u8 x)) (h : OwnB base w (.slice (some ⟨g, 0, none⟩) n c) L) : OwnB base w2 (.slice (some ⟨g, 0, none⟩) n c) (L.set k x) := by rw [hw]; exact h.put k x
theorem below_putb {B base : Nat} {w0 w w2 : World} {g n c k : Nat} {L : List Int} {x : Value} (hw : w2 = w.setCell ⟨g, k, none⟩ x) (h : OwnB base w (.slice (some ⟨g, 0, none⟩) n c) L) (hB : B ≤ base) (hb : Below B w0 w) : Below B w0 w2 := by
  rw [hw]; exact hb.setCell (by have := (h.own.lt g rfl).1; simp; omega) _
set_option maxHeartbeats 4000000 in
set_option maxRecDepth 20000 in
theorem udpOneByte_any (V : Int) (bs : List Int) (V2 : Int) (bs2 : List Int) (sp dp : Int) (ns : Bool) (dv : Value) (l : List Int) (at_ mask : Int) (w : World) (h : IsA V bs) (h2 : IsA V2 bs2) (hd : Rb w dv l) :
    Calls Try.prog 8 #[addrV V bs, addrV V2 bs2, .agg #[.int .i64 sp, .int .i64 dp, .bool ns, dv], .int .i64 at_, .int .i64 mask] w (APost w (.bool true)) := by
  have H := hid h
  have H2 := hid h2
  have HD := hid hd
  obtain ⟨six, h6⟩ : ∃ six : Bool, (V == 6) = six := ⟨_, rfl⟩
  have I1 := hid (ad_is six h)
  have I2 := hid (ad_is six h2)
  have MD := made six h h2 sp dp false hd.byt (fun hn => by cases hn)
  have hadv : adV six = 4 ∧ six = false ∨ adV six = 6 ∧ six = true := by cases six <;> simp [adV]
  obtain ⟨ad, cd, rfl, hcd, hmd, _⟩ := hd.open
  unfold maxLen at hmd
  obtain ⟨a1, a2, a3, bb, hz⟩ := bx3 w (.cells (addrC V bs) 24) (.cells (addrC V2 bs2) 24) (.cells #[.int .i64 sp, .int .i64 dp, .bool ns, .slice ad l.length cd] 35)
  have A1 := hid (show AddrAt (((w.alloc (.cells (addrC V bs) 24)).alloc (.cells (addrC V2 bs2) 24)).alloc (.cells #[.int .i64 sp, .int .i64 dp, .bool ns, .slice ad l.length cd] 35)) _ V bs from a1)
  have A2 := hid (show AddrAt (((w.alloc (.cells (addrC V bs) 24)).alloc (.cells (addrC V2 bs2) 24)).alloc (.cells #[.int .i64 sp, .int .i64 dp, .bool ns, .slice ad l.length cd] 35)) _ V2 bs2 from a2)
  have c1 := A1.out.v
  have K3 := hid a3
  have BW := hid bb
  have HF := hid ((hd.front (dmN six l.length) (dmN_le six l.length).1))
  have DG := hid (fun W => dgram_any sp dp ns ad cd l.length six W hcd (by omega))
  have ADR := hid (fun W U us (hc : (U = V ∧ us = bs) ∨ (U = V2 ∧ us = bs2)) => (show Calls Try.prog 19 #[.agg (addrC U us), .bool six] W (APost W (.agg (addrC (adV six) (adL six us)))) from by rcases hc with ⟨rfl, rfl⟩ | ⟨rfl, rfl⟩; exact address_any _ _ six W h; exact address_any _ _ six W h2))
  clear a1 a2 a3 bb h h2 hd hz
  unfold addrV at *
  go_enter Try.func8, Try.ntmps8
  go_upto_region 1 with fail
  generalize (((w.alloc (.cells (addrC V bs) 24)).alloc (.cells (addrC V2 bs2) 24)).alloc (.cells #[.int .i64 sp, .int .i64 dp, .bool ns, .slice ad l.length cd] 35)) = w' at *
  go_upto_region 2 with fail
  clear c1
  have H6 := hid h6
  clear h6
  generalize hV' : adV six = V' at *
  generalize hb1 : adL six bs = b1 at *
  generalize hb2 : adL six bs2 = b2 at *
  have HB1 := hid hb1
  have HB2 := hid hb2
  have HADV := hid hadv
  clear hV' hb1 hb2 hadv
  go_upto_region 5 with (first
    | go_skip
    | ((with_reducible show wpList _ _ _ _ _ _)
       first
       | (refine wpList_load_addr (by rfl) _ rfl _ _ _ rfl A1.out (by first | exact H.out.len | exact I1.out.len) ?_)
       | (refine wpList_load_addr (by rfl) _ rfl _ _ _ rfl A2.out (by first | exact H2.out.len | exact I2.out.len) ?_)
       | (refine wpList_load_blk (by rfl) 35 _ rfl _ rfl _ _ _ K3.out _ Try.underlying35 rfl (by rw [addr_size]; rfl) ?_)
       | (refine wpList_store_addr (by rfl) _ _ rfl rfl _ _ _ rfl rfl _ _ A1.out I1.out.len H.out.len ?_; intro w' hA hS; replace A2 := hid ((hS.block _ (by omega)).trans A2.out); replace K3 := hid ((hS.block _ (by omega)).trans K3.out); replace BW := hid (BW.out.trans (hS.below (by omega))); replace A1 := hid hA; clear hA hS)
       | (refine wpList_store_addr (by rfl) _ _ rfl rfl _ _ _ rfl rfl _ _ A2.out I2.out.len H2.out.len ?_; intro w' hA hS; replace A1 := hid ((hS.block _ (by omega)).trans A1.out); replace K3 := hid ((hS.block _ (by omega)).trans K3.out); replace BW := hid (BW.out.trans (hS.below (by omega))); replace A2 := hid hA; clear hA hS))
    | (go_at_call 19; refine (ADR.out _ _ _ (by first | exact Or.inl ⟨rfl, rfl⟩ | exact Or.inr ⟨rfl, rfl⟩)).mono ?_; rintro en w' ⟨rfl, hb⟩; (try simp only [HB1.out]); (try simp only [HB2.out]); replace A1 := hid (blk_bel A1.out hb); replace A2 := hid (blk_bel A2.out hb); replace K3 := hid (blk_bel K3.out hb); replace BW := hid (BW.out.trans (hb.mono BW.out.size)); clear hb)
    | (go_at_call 20; refine (DG.out _).mono ?_; rintro en w' ⟨rfl, hb⟩; replace A1 := hid (blk_bel A1.out hb); replace A2 := hid (blk_bel A2.out hb); replace BW := hid (BW.out.trans (hb.mono BW.out.size)); clear hb))
  refine wp_world fun w5 hw5 => ?_
  have K0 := blk_allocW hw5
  have hb := below_allocW hw5 (Nat.le_refl _) (Below.refl _ _)
  have a1 := blk_bel A1.out hb
  have a2 := blk_bel A2.out hb
  have bw := BW.out.trans (hb.mono BW.out.size)
  have hlt5 : w.heap.size + 2 ≤ w'.heap.size := by have := (Array.getElem?_eq_some_iff.1 A2.out).1; omega
  clear hw5 hb A1 A2 BW K3 ADR DG HB1 HB2
  obtain ⟨d0, d1, d2, d3⟩ := cells4 K0
  obtain ⟨f0, f1, f2, f3⟩ := frozen4 K0
  go_upto_region 6 with fail
  clear d0 d1 d2 d3 f0 f1 f2 f3
  refine wp_world fun w6 hw6 => ?_
  have hS6 : Stored w'.heap.size w5 w6 := by rw [hw6]; exact Stored.setCell _ _ _ _
  have K0' : w6.heap[w'.heap.size]? = some (.cells #[.int .i64 (sp % 65536), .int .i64 (dp % 65536), .bool false, .slice ad (dmN six l.length) cd] 35 (0, 0)) := by rw [hw6]; exact heap_store K0 (.bool false)
  replace a1 := (hS6.block _ (by omega)).trans a1
  replace a2 := (hS6.block _ (by omega)).trans a2
  replace bw := bw.trans (hS6.below (by omega))
  clear hw6 hS6 K0
  have hml : (l.take (dmN six l.length)).length = dmN six l.length := by have := MD.eight; omega
  generalize sp % 65536 = sp' at *
  generalize dp % 65536 = dp' at *
  generalize dgL V' b1 b2 sp' dp' false (l.take (dmN six l.length)) = r at *
  generalize l.take (dmN six l.length) = d at *
  generalize dmN six l.length = m at *
  have DD := hid (fun W (hW : Below w6.heap.size w6 W) => (⟨blk_bel a1 hW, blk_bel a2 hW, cells4 (blk_bel K0' hW), HF.out.below (bw.trans (hW.mono bw.size)), bw.trans (hW.mono bw.size)⟩ : AddrAt W _ V' b1 ∧ AddrAt W _ V' b2 ∧ _ ∧ Rb W (.slice ad m cd) d ∧ Below w.heap.size w W))
  have B0 := hid (Below.refl w6.heap.size w6)
  have hsm := MD.small
  have hrl := MD.len
  have P2 := hid (fun W dv (hR : Rb W dv d) => (show Calls Try.prog 13 #[.agg (addrC V' b1), .agg (addrC V' b2), .agg #[.int .i64 sp', .int .i64 dp', .bool false, dv]] W (BdPost (8 + m) r W) from
    (build_any V' b1 V' b2 sp' dp' false dv d W I1.out I2.out hR).mono fun en w' hp => by rw [MD.ok, MD.is] at hp; exact hp.bd MD.len (by omega)))
  -- which byte, and what it becomes
  obtain ⟨k, hk⟩ : ∃ k : Nat, at_ % (((8 + m : Nat) : Int) - 1 + 1) = (k : Int) := ⟨(at_ % (((8 + m : Nat) : Int) - 1 + 1)).toNat, by have := Int.emod_nonneg at_ (show (((8 + m : Nat) : Int) - 1 + 1) ≠ 0 by omega); omega⟩
  have hkn : k < 8 + m := by have := Int.emod_lt_of_pos at_ (show 0 < (((8 + m : Nat) : Int) - 1 + 1) by omega); omega
  have hkn2 : (k : Int) < 8 + (m : Int) := by omega
  have RS1 := hid (fun W (x : Int) (hx : x = ((8 + m : Nat) : Int) - 1) => (show Calls Try.prog 23 #[.int .i64 at_, .int .i64 x] W (fun en w' => en = .returned (.int .i64 (k : Int)) ∧ W = w') from by rw [hx, ← hk]; exact rest_any at_ _ W (by omega) (by omega)))
  obtain ⟨q, hq⟩ : ∃ q, mask % (254 + 1) = q := ⟨_, rfl⟩
  have hqb : 0 ≤ q ∧ q ≤ 254 := by omega
  have RS2 := hid (fun W => (show Calls Try.prog 23 #[.int .i64 mask, .int .i64 254] W (fun en w' => en = .returned (.int .i64 q) ∧ w' = W) from (rest_any mask 254 W (by decide) (by decide)).mono fun en w' ⟨h1, h2⟩ => ⟨by rw [h1, hq], h2.symm⟩))
  have hyk := MD.byt.bd k
  obtain ⟨hx, hxne⟩ := u8_xor (y := gt r k) (q := 1 + q) hyk (by omega)
  obtain ⟨o1, o2, o3, o4⟩ := onebyte MD I1.out I2.out (k := k) (x := bits .xor .u8 (gt r k) (1 + q)) hkn hx hxne (by rcases HADV.out with ⟨hv, _⟩ | ⟨hv, _⟩ <;> omega)
  have RL := hid MD.byt
  have QK := hid (fun W base g n c (hO : OwnB base W (.slice (some ⟨g, 0, none⟩) n c) r) => (⟨hO.at (j := k) (by omega), hO.frz (j := k) (by omega)⟩ : W.cell? ⟨g, k, none⟩ = some (.int .u8 (gt r k)) ∧ W.frozen? ⟨g, k, none⟩ = false))
  obtain ⟨x, hxv⟩ : ∃ x, bits .xor .u8 (gt r k) (1 + q) = x := ⟨_, rfl⟩
  rw [hxv] at hx o1 o2 o3 o4
  have RL2 := hid (MD.byt.set k hx.1 hx.2)
  have PX := fun W v (hR : Rb W v (r.set k x)) => parse_all V' b1 V' b2 v (r.set k x) W I1.out I2.out hR
  have QF := hid (fun W base g n c (hO : OwnB base W (.slice (some ⟨g, 0, none⟩) n c) (r.set k x)) => (⟨hO.at (j := 6) (by rw [List.length_set]; omega), hO.at (j := 7) (by rw [List.length_set]; omega)⟩ : W.cell? ⟨g, 6, none⟩ = some (.int .u8 (gt (r.set k x) 6)) ∧ W.cell? ⟨g, 7, none⟩ = some (.int .u8 (gt (r.set k x) 7))))
  generalize pgE V' b1 V' b2 (r.set k x) = e2 at *
  have PX := hid PX
  have O14 := hid (⟨o1, o2, o3, o4⟩ : _ ∧ _ ∧ _ ∧ _)
  have HRL := hid hrl
  clear MD a1 a2 bw K0' hml HF HD hk hq hxne o1 o2 o3 o4 hrl
  generalize hyk' : gt r k = yk at *
  clear hyk'
  have HXV := hid hxv
  clear hxv
  have z6b := RL2.out.bd 6
  have z7b := RL2.out.bd 7
  generalize gt (r.set k x) 6 = z6 at *
  generalize gt (r.set k x) 7 = z7 at *
  obtain ⟨A1, A2, ⟨d0, d1, d2, d3⟩, HR, BW⟩ := DD.out _ B0.out; replace A1 := hid A1; replace A2 := hid A2; replace HR := hid HR; replace BW := hid BW
  have w' := w6
  go_wp2_with (first
    | go_skip
    | ((with_reducible show Code.wp _ (Code.region 10 _ true) _ _ _)
       refine wp_still_tail 12 (by kernel_rfl) (by kernel_rfl) fun w' hS => ?_
       have hb := same_bel hS
       (try replace O1 := hid (O1.out.below hb)); (try replace O2 := hid (O2.out.below hb))
       replace B0 := hid (B0.out.trans (hS.below _))
       clear hb hS
       clear A1 A2 d0 d1 d2 d3 HR BW; (try clear q4 q5); (try clear q6 q7); obtain ⟨A1, A2, ⟨d0, d1, d2, d3⟩, HR, BW⟩ := DD.out _ B0.out; replace A1 := hid A1; replace A2 := hid A2; replace HR := hid HR; replace BW := hid BW; (try (have hq := QK.out _ _ _ _ _ O1.out; obtain ⟨q4, q5⟩ := hq)); (try (have hq := QF.out _ _ _ _ _ O2.out; obtain ⟨q6, q7⟩ := hq))
       simp only [List.take_succ_cons, List.take_zero, List.drop_succ_cons, List.drop_zero]
       (repeat still_step)
       still_call (RS2.out _)
       (repeat still_step)
       refine wpStill_nil ?_)
    | ((with_reducible show wpList _ _ _ (⟨some 67, _, _, _, _, _⟩ :: _) _ (World.setCell w' _ _)); refine wpList_world fun w' hw2 => ?_; have ho := stored_putb hw2 O1.out; rw [HXV.out] at ho; have O2 := hid ho; clear ho; replace B0 := hid (below_putb hw2 O1.out (Nat.le_refl _) B0.out); clear O1 hw2; clear A1 A2 d0 d1 d2 d3 HR BW; (try clear q4 q5); (try clear q6 q7); obtain ⟨A1, A2, ⟨d0, d1, d2, d3⟩, HR, BW⟩ := DD.out _ B0.out; replace A1 := hid A1; replace A2 := hid A2; replace HR := hid HR; replace BW := hid BW; (try (have hq := QK.out _ _ _ _ _ O1.out; obtain ⟨q4, q5⟩ := hq)); (try (have hq := QF.out _ _ _ _ _ O2.out; obtain ⟨q6, q7⟩ := hq)))
    | ((with_reducible show wpList _ _ _ (⟨some 74, _, _, _, _, _⟩ :: _) _ (World.alloc w' _)); refine wpList_world fun w' hw2 => ?_; have hb := below_allocW hw2 (Nat.le_refl _) (Below.refl _ _); (try replace O1 := hid (O1.out.below hb)); (try replace O2 := hid (O2.out.below hb)); replace B0 := hid (below_allocW hw2 (Nat.le_refl _) B0.out); clear hw2 hb; clear A1 A2 d0 d1 d2 d3 HR BW; (try clear q4 q5); (try clear q6 q7); obtain ⟨A1, A2, ⟨d0, d1, d2, d3⟩, HR, BW⟩ := DD.out _ B0.out; replace A1 := hid A1; replace A2 := hid A2; replace HR := hid HR; replace BW := hid BW; (try (have hq := QK.out _ _ _ _ _ O1.out; obtain ⟨q4, q5⟩ := hq)); (try (have hq := QF.out _ _ _ _ _ O2.out; obtain ⟨q6, q7⟩ := hq)))
    | (go_at_call 16; refine (PX.out _ _ (O2.out.rb RL2.out)).mono ?_; rintro en w' ⟨a3, c3, rfl, ho, hb⟩; (try replace O1 := hid (O1.out.below hb)); (try replace O2 := hid (O2.out.below hb)); replace B0 := hid (B0.out.trans (hb.mono B0.out.size)); clear ho hb; clear A1 A2 d0 d1 d2 d3 HR BW; (try clear q4 q5); (try clear q6 q7); obtain ⟨A1, A2, ⟨d0, d1, d2, d3⟩, HR, BW⟩ := DD.out _ B0.out; replace A1 := hid A1; replace A2 := hid A2; replace HR := hid HR; replace BW := hid BW; (try (have hq := QK.out _ _ _ _ _ O1.out; obtain ⟨q4, q5⟩ := hq)); (try (have hq := QF.out _ _ _ _ _ O2.out; obtain ⟨q6, q7⟩ := hq)))
    | ((with_reducible show wpList _ _ _ _ _ _)
       first
       | (refine wpList_cmp (by rfl) _ (by rfl) _ _ _ _ rfl _ (by go_simp; exact rfl) ?_ ?_ <;> (intro hc; (try simp only [decide_eq_true_eq, decide_eq_false_iff_not, Int.not_lt] at hc); (try (simp at hc; done)); go_prune))
       | (refine wpList_load_addr (by rfl) _ rfl _ _ _ rfl A1.out I1.out.len ?_)
       | (refine wpList_load_addr (by rfl) _ rfl _ _ _ rfl A2.out I2.out.len ?_))
    | (go_at_call 13; refine (P2.out _ _ HR.out).mono ?_; rintro en w' ⟨g1, c1, rfl, hO, hb⟩; have O1 := hid hO; replace B0 := hid (B0.out.trans (hb.mono B0.out.size)); clear hO hb; clear A1 A2 d0 d1 d2 d3 HR BW; (try clear q4 q5); (try clear q6 q7); obtain ⟨A1, A2, ⟨d0, d1, d2, d3⟩, HR, BW⟩ := DD.out _ B0.out; replace A1 := hid A1; replace A2 := hid A2; replace HR := hid HR; replace BW := hid BW; (try (have hq := QK.out _ _ _ _ _ O1.out; obtain ⟨q4, q5⟩ := hq)); (try (have hq := QF.out _ _ _ _ _ O2.out; obtain ⟨q6, q7⟩ := hq)))
    | (go_at_call 12; refine (known_any _).mono ?_; rintro en w' ⟨rfl, hb⟩; (try replace O1 := hid (O1.out.below hb)); (try replace O2 := hid (O2.out.below hb)); replace B0 := hid (B0.out.trans (hb.mono B0.out.size)); clear hb; clear A1 A2 d0 d1 d2 d3 HR BW; (try clear q4 q5); (try clear q6 q7); obtain ⟨A1, A2, ⟨d0, d1, d2, d3⟩, HR, BW⟩ := DD.out _ B0.out; replace A1 := hid A1; replace A2 := hid A2; replace HR := hid HR; replace BW := hid BW; (try (have hq := QK.out _ _ _ _ _ O1.out; obtain ⟨q4, q5⟩ := hq)); (try (have hq := QF.out _ _ _ _ _ O2.out; obtain ⟨q6, q7⟩ := hq)))
    | (go_at_call 23; refine (RS1.out _ _ (by omega)).mono ?_; rintro en w'' ⟨rfl, rfl⟩))
  all_goals
    go_ret
    refine ⟨?_, BW.out⟩
    first
    | rfl
    | (exfalso
       obtain ⟨o1, o2, o3, o4⟩ := O14.out
       have hv := HADV.out
       clear DD P2 QK QF PX RS1 RS2 O14 HADV
       clear A1 A2 d0 d1 d2 d3
       (try clear q4 q5)
       (try clear q6 q7)
       first
       | omega
       | (simp at *; omega)
       | (simp at *; simp_all; done)
       | (simp at *; simp_all; omega))
  all_goals trace_state
  all_goals sorry
end Go.Proofs.Ytpiafmnfneefiaa
