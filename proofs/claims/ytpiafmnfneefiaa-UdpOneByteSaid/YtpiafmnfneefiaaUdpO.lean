/-
  The document's Build, the walk.
-/
import Derived.Test.YtpiafmnfneefiaaUdpN
namespace Go.Proofs.Ytpiafmnfneefiaa
open Go.RowKit

set_option maxHeartbeats 1000000 in
set_option maxRecDepth 20000 in
theorem refBuild_any (V : Int) (bs : List Int) (V2 : Int) (bs2 : List Int) (sp dp : Int) (ns : Bool) (dv : Value) (d : List Int) (w : World) (h : IsA V bs) (h2 : IsA V2 bs2) (hd : Rb w dv d) :
    Calls Try.prog 14 #[addrV V bs, addrV V2 bs2, .agg #[.int .i64 sp, .int .i64 dp, .bool ns, dv]] w (DgPost (dgE V bs V2 bs2 sp dp ns d) (dgR V bs V2 bs2 sp dp ns d) w) := by
  have H := hid h
  have H2 := hid h2
  have HD := hid hd
  obtain ⟨ad, cd, rfl, hcd, hmd, _⟩ := hd.open
  unfold maxLen at hmd
  obtain ⟨a1, a2, a3, bb, hz⟩ := bx3 w (.cells (addrC V bs) 24) (.cells (addrC V2 bs2) 24) (.cells #[.int .i64 sp, .int .i64 dp, .bool ns, .slice ad d.length cd] 35)
  have DD := hid (fun W (hW : Below (((w.alloc (.cells (addrC V bs) 24)).alloc (.cells (addrC V2 bs2) 24)).alloc (.cells #[.int .i64 sp, .int .i64 dp, .bool ns, .slice ad d.length cd] 35)).heap.size (((w.alloc (.cells (addrC V bs) 24)).alloc (.cells (addrC V2 bs2) 24)).alloc (.cells #[.int .i64 sp, .int .i64 dp, .bool ns, .slice ad d.length cd] 35)) W) => (⟨blk_bel a1 hW, blk_bel a2 hW, (AddrAt.v (blk_bel a1 hW) : W.cell? ⟨w.heap.size, 0, none⟩ = some (.int .i64 V)), cells4 (blk_bel a3 hW), HD.out.below (bb.trans (hW.mono bb.size)), bb.trans (hW.mono bb.size)⟩ : AddrAt W _ V bs ∧ AddrAt W _ V2 bs2 ∧ _ ∧ _ ∧ Rb W (.slice ad d.length cd) d ∧ Below w.heap.size w W))
  have P := hid (fun W => refPair_any V bs V2 bs2 W h h2)
  have M := hid (fun W => refMost_any V bs W)
  have HE := hid (fun W (n : Int) (hn : 0 ≤ n ∧ n ≤ 65535) => refHead_any V bs V2 bs2 17 n W h h2 (by omega) hn)
  have HL := hid (fun n => headL_len V (bs := bs) (bs2 := bs2) 17 n h.len h2.len)
  have HB2 := hid (fun n (hn : 0 ≤ n ∧ n ≤ 65535) => headL_byt (V := V) (proto := 17) (n := n) h.byt h2.byt (by omega) hn)
  have hmv : mostV V ≤ 65527 := by unfold mostV; split <;> omega
  have B0 := hid (Below.refl (((w.alloc (.cells (addrC V bs) 24)).alloc (.cells (addrC V2 bs2) 24)).alloc (.cells #[.int .i64 sp, .int .i64 dp, .bool ns, .slice ad d.length cd] 35)).heap.size (((w.alloc (.cells (addrC V bs) 24)).alloc (.cells (addrC V2 bs2) 24)).alloc (.cells #[.int .i64 sp, .int .i64 dp, .bool ns, .slice ad d.length cd] 35)))
  have EE : Hid (dgE V bs V2 bs2 sp dp ns d = if (pairA V bs V2 bs2 && portB sp && portB dp && !(ns && decide (V = 6))) = true then (if mostV V < d.length then 3 else 0) else 1) := hid rfl
  have RE : Hid (dgR V bs V2 bs2 sp dp ns d = if dgE V bs V2 bs2 sp dp ns d = 0 then dgL V bs bs2 sp dp ns d else []) := hid rfl
  generalize dgE V bs V2 bs2 sp dp ns d = e at *
  generalize dgR V bs V2 bs2 sp dp ns d = r at *
  generalize mostV V = mv at *
  generalize hpp : partL (headL V bs bs2 17 (8 + (d.length : Int)) ++ dgB sp dp d) = pp at *
  have PP := hid hpp
  clear hpp
  generalize pairA V bs V2 bs2 = vp at *
  have HZ := hid hz
  clear a1 a2 a3 bb h h2 hd hz
  unfold addrV at *
  go_enter Try.func14, Try.ntmps14
  go_upto_region 1 with fail
  generalize (((w.alloc (.cells (addrC V bs) 24)).alloc (.cells (addrC V2 bs2) 24)).alloc (.cells #[.int .i64 sp, .int .i64 dp, .bool ns, .slice ad d.length cd] 35)) = w1 at *
  obtain ⟨A1, A2, c1, ⟨d0, d1, d2, d3⟩, HR, BW⟩ := DD.out _ B0.out; replace A1 := hid A1; replace A2 := hid A2; replace HR := hid HR; replace BW := hid BW
  have w' := w1
  go_wp2_with (first
    | go_skip
    | ((with_reducible show wpList _ _ _ _ _ _); first | (refine wpList_cmp (by rfl) _ (by rfl) _ _ _ _ rfl _ (by go_simp; exact rfl) ?_ ?_ <;> (intro hc; (try simp only [decide_eq_true_eq, decide_eq_false_iff_not, Int.not_lt] at hc); go_prune)) | (refine wpList_load_addr (by rfl) _ rfl _ _ _ rfl A1.out H.out.len ?_) | (refine wpList_load_addr (by rfl) _ rfl _ _ _ rfl A2.out H2.out.len ?_) | ((with_reducible show wpList _ _ _ _ _ (World.alloc w' _)); refine wpList_world fun w' hw2 => ?_; have O9 := hid (OwnB.lit (n := 8) (L := [sp / 256, sp % 256, dp / 256, dp % 256, (8 + (d.length : Int)) / 256, (8 + (d.length : Int)) % 256, 0, 0]) hw2 B0.out.size rfl rfl (by decide)); replace B0 := hid (below_allocW hw2 (Nat.le_refl _) B0.out); clear hw2; clear A1 A2 c1 d0 d1 d2 d3 HR BW; obtain ⟨A1, A2, c1, ⟨d0, d1, d2, d3⟩, HR, BW⟩ := DD.out _ B0.out; replace A1 := hid A1; replace A2 := hid A2; replace HR := hid HR; replace BW := hid BW) | (refine wpList_cat (by rfl) _ _ rfl w1.heap.size _ _ rfl O9.out _ d rfl HR.out (8 + d.length) (by rfl) (by omega) ?_; intro a9 c9 w' hO hB hat; replace B0 := hid (B0.out.trans hB); have LE9 := hid B0.out.size; obtain ⟨g9, c9', hv, hg9, hlt9, -⟩ := hO.open (by simp); simp only [Value.slice.injEq] at hv; obtain ⟨rfl, -, rfl⟩ := hv; replace O9 := hid (show OwnB _ _ _ (dgB sp dp d) from hO); clear hO hB hat; have B9 := hid (Below.refl w'.heap.size w'); clear A1 A2 c1 d0 d1 d2 d3 HR BW; obtain ⟨A1, A2, c1, ⟨d0, d1, d2, d3⟩, HR, BW⟩ := DD.out _ B0.out; replace A1 := hid A1; replace A2 := hid A2; replace HR := hid HR; replace BW := hid BW) | (refine wpList_cat (by rfl) _ _ rfl _ v6 _ rfl O6.out _ _ rfl ((O9.out.below B9.out).rb (dgB_byt (by omega) (by omega) HD.out.byt (by omega))) _ rfl (by have := HL.out (8 + (d.length : Int)); rw [dgB_len]; omega) ?_; intro a7 c7 w' hO hB hat; replace B9 := hid (B9.out.trans hB); replace B0 := hid (B0.out.trans (hB.mono LE9.out)); have O7 := hid hO; clear hO hB hat; clear A1 A2 c1 d0 d1 d2 d3 HR BW; obtain ⟨A1, A2, c1, ⟨d0, d1, d2, d3⟩, HR, BW⟩ := DD.out _ B0.out; replace A1 := hid A1; replace A2 := hid A2; replace HR := hid HR; replace BW := hid BW))
    | (go_at_call 26; refine (P.out _).mono ?_; rintro en w' ⟨rfl, hb⟩; replace B0 := hid (B0.out.trans (hb.mono B0.out.size)); clear hb; clear A1 A2 c1 d0 d1 d2 d3 HR BW; obtain ⟨A1, A2, c1, ⟨d0, d1, d2, d3⟩, HR, BW⟩ := DD.out _ B0.out; replace A1 := hid A1; replace A2 := hid A2; replace HR := hid HR; replace BW := hid BW; cases vp)
    | (go_at_call 28; refine (HE.out _ _ (by omega)).mono ?_; rintro en w' ⟨v6, rfl, ho, hb⟩; have O6 := hid (OwnB.mk ho hb.size); replace B0 := hid (B0.out.trans (hb.mono B0.out.size)); replace B9 := hid (B9.out.trans hb); clear ho hb; clear A1 A2 c1 d0 d1 d2 d3 HR BW; obtain ⟨A1, A2, c1, ⟨d0, d1, d2, d3⟩, HR, BW⟩ := DD.out _ B0.out; replace A1 := hid A1; replace A2 := hid A2; replace HR := hid HR; replace BW := hid BW)
    | (go_at_call 38; refine (refOf_any _ _ _ (O7.out.rb ((HB2.out _ (by omega)).append (dgB_byt (by omega) (by omega) HD.out.byt (by omega)))) (by have := HL.out (8 + (d.length : Int)); rw [List.length_append, dgB_len]; omega)).mono ?_; rintro en w'' ⟨rfl, rfl⟩; replace O9 := hid (O9.out.below B9.out); have hpb := partL_bd ((HB2.out (8 + (d.length : Int)) (by omega)).append (dgB_byt (sp := sp) (dp := dp) (by omega) (by omega) HD.out.byt (by omega))); simp only [PP.out] at hpb ⊢; obtain ⟨g9', c9', hv, hg9', hlt9', hc9⟩ := O9.out.open (by rw [dgB_len]; omega); simp only [Value.slice.injEq, Option.some.injEq, Addr.mk.injEq, and_true] at hv; obtain ⟨rfl, -, rfl⟩ := hv; obtain ⟨q6, r6⟩ := hc9 6 (by rw [dgB_len]; omega); obtain ⟨q7, r7⟩ := hc9 7 (by rw [dgB_len]; omega); clear hc9)
    | ((with_reducible show Code.wp _ (Code.region 3 _ true) _ _ _)
       refine wp_region_canon ((0, false) :: (1, false) :: (2, false) :: (3, false) :: (4, true) :: (5, false) :: []) (fun W => Below w1.heap.size w1 W) (by kernel_rfl) (by kernel_rfl) (fun c a d v w h => by cases d <;> exact h) ?_ ?_
       · exact B0.out.trans ((Same.drew _).below _)
       simp only [pick, List.getElem?_cons_succ, List.getElem?_cons_zero]
       (repeat (first | (refine wpD_weak (by rfl) ?_; apply Exists.intro; refine ⟨fun wS hS => ?_, ?_⟩; (focus (obtain ⟨_, _, _, ⟨_, _, _, _⟩, _, _⟩ := DD.out _ hS; go_simp; (try with_reducible rfl); done)); simp only [Act.put, List.setIfInBounds_toArray, List.set_cons_zero, List.set_cons_succ]) | (refine wpD_pass (by rfl) ?_; simp only [Act.put, List.setIfInBounds_toArray, List.set_cons_zero, List.set_cons_succ])))
       refine wpD_load_addr (by rfl) _ rfl _ V bs rfl (fun _ hS => (DD.out _ hS).1) H.out.len ?_
       simp only [Act.put, List.setIfInBounds_toArray, List.set_cons_zero, List.set_cons_succ]
       (refine wpD_strong (by rfl) (fun K hK => ?_); go_simp)
       refine (M.out _).mono ?_
       rintro en w' ⟨rfl, hb⟩
       replace B0 := hid ((B0.out.trans ((Same.drew _).below _)).trans (hb.mono (by simpa using B0.out.size)))
       (refine hK _ _ (by exact B0.out) ?_; clear hK K; (try simp only [Act.put, List.setIfInBounds_toArray, List.set_cons_zero, List.set_cons_succ]))
       (repeat (first | (refine wpD_weak (by rfl) ?_; apply Exists.intro; refine ⟨fun wS hS => ?_, ?_⟩; (focus (go_simp; (try with_reducible rfl); done)); simp only [Act.put, List.setIfInBounds_toArray, List.set_cons_zero, List.set_cons_succ]) | (refine wpD_pass (by rfl) ?_; simp only [Act.put, List.setIfInBounds_toArray, List.set_cons_zero, List.set_cons_succ])))
       refine wpD_nil ?_
       clear hb
       clear A1 A2 c1 d0 d1 d2 d3 HR BW; obtain ⟨A1, A2, c1, ⟨d0, d1, d2, d3⟩, HR, BW⟩ := DD.out _ B0.out; replace A1 := hid A1; replace A2 := hid A2; replace HR := hid HR; replace BW := hid BW))
  all_goals
    go_ret2
    have hEE := EE.out
    have hRE := RE.out
    clear EE RE DD P M HE HB2
    unfold portB at hEE
  all_goals first
    | (have he : e = 1 := by (rw [hEE]; refine if_neg ?_; (intro hh; simp at hh <;> first | omega | (simp_all; done)))
       rw [if_neg (by omega)] at hRE
       show DgPost e r w (.returned (.tuple #[.slice none 0 0, .int .i64 1])) _
       rw [he]; exact DgPost.err hRE BW.out)
    | (have he : e = 3 := by (rw [hEE]; refine (if_pos ?_).trans (if_pos ?_) <;> first | omega | (simp_all; done) | (simp_all; omega))
       rw [if_neg (by omega)] at hRE
       show DgPost e r w (.returned (.tuple #[.slice none 0 0, .int .i64 3])) _
       rw [he]; exact DgPost.err hRE BW.out)
    | skip
  all_goals
    have he : e = 0 := by (rw [hEE]; refine (if_pos ?_).trans (if_neg ?_) <;> first | omega | (simp_all; done) | (simp_all; omega))
    rw [if_pos he] at hRE
    unfold dgL at hRE
    have hz := HZ.out
    have hbw := BW.out.size
  · rw [if_pos (by assumption)] at hRE
    show DgPost e r w (.returned (.tuple #[.slice (some ⟨g9, 0, none⟩) (8 + d.length) c9, .int .i64 0])) _
    rw [he, hRE]
    exact ⟨_, rfl, by have := own_base O9.out.own (show w.heap.size ≤ _ by omega); rw [dgB_len] at this ⊢; exact this, BW.out⟩
  all_goals
    rw [if_neg (by assumption)] at hRE
    unfold dgS at hRE
    rw [PP.out] at hRE
    show DgPost e r w (.returned (.tuple #[.slice (some ⟨g9, 0, none⟩) (8 + d.length) c9, .int .i64 0])) _
  · rw [if_pos (by simpa using hc)] at hRE
    rw [he, hRE]
    refine ⟨_, rfl, ?_, (BW.out.setCell (by simp; omega) _).setCell (by simp; omega) _⟩
    have := own_base ((O9.out.put 6 255).put 7 255).own (show w.heap.size ≤ _ by omega)
    rw [List.length_set, List.length_set, dgB_len] at this ⊢
    exact this
  · rw [if_neg (by simpa using hc)] at hRE
    rw [he, hRE]
    refine ⟨_, rfl, ?_, (BW.out.setCell (by simp; omega) _).setCell (by simp; omega) _⟩
    have := own_base ((O9.out.put 6 ((65535 - pp) / 256)).put 7 ((65535 - pp) % 256)).own (show w.heap.size ≤ _ by omega)
    rw [List.length_set, List.length_set, dgB_len] at this ⊢
    exact this
end Go.Proofs.Ytpiafmnfneefiaa
