/-
  The document's Parse, the walk.
-/
import Derived.Test.YtpiafmnfneefiaaUdpN
namespace Go.Proofs.Ytpiafmnfneefiaa
open Go.RowKit


set_option maxHeartbeats 1000000 in
set_option maxRecDepth 20000 in
theorem refParse_any (V : Int) (bs : List Int) (V2 : Int) (bs2 : List Int) (bv : Value) (l : List Int) (w : World) (h : IsA V bs) (h2 : IsA V2 bs2) (hb : Rb w bv l) :
    Calls Try.prog 17 #[addrV V bs, addrV V2 bs2, bv] w (PgPost (pgE V bs V2 bs2 l) l w) := by
  have H := hid h
  have H2 := hid h2
  have HB := hid hb
  obtain ⟨ab, cb, rfl, hcb, hmb, _⟩ := hb.open
  unfold maxLen at hmb
  obtain ⟨a1, a2, a3, bb, hz⟩ := bx3 w (.cells (addrC V bs) 24) (.cells (addrC V2 bs2) 24) (.cells #[.int .i64 0, .int .i64 0, .bool false, .slice none 0 0] 35)
  have DD := hid (fun W (hW : Below (((w.alloc (.cells (addrC V bs) 24)).alloc (.cells (addrC V2 bs2) 24)).alloc (.cells #[.int .i64 0, .int .i64 0, .bool false, .slice none 0 0] 35)).heap.size (((w.alloc (.cells (addrC V bs) 24)).alloc (.cells (addrC V2 bs2) 24)).alloc (.cells #[.int .i64 0, .int .i64 0, .bool false, .slice none 0 0] 35)) W) => (⟨blk_bel a1 hW, blk_bel a2 hW, (AddrAt.v (blk_bel a1 hW) : W.cell? ⟨w.heap.size, 0, none⟩ = some (.int .i64 V)), cells4 (blk_bel a3 hW), frozen4 (blk_bel a3 hW), HB.out.below (bb.trans (hW.mono bb.size)), bb.trans (hW.mono bb.size)⟩ : AddrAt W _ V bs ∧ AddrAt W _ V2 bs2 ∧ _ ∧ _ ∧ _ ∧ Rb W (.slice ab l.length cb) l ∧ Below w.heap.size w W))
  have P := hid (fun W => refPair_any V bs V2 bs2 W h h2)
  have M := hid (fun W => refMost_any V bs W)
  have WR := hid (fun W (k : Int) (hR : Rb W (.slice ab l.length cb) l) (h0 : 0 ≤ k) (hk : k + 2 ≤ l.length) => (show Calls Try.prog 41 #[.slice ab l.length cb, .int .i64 k] W (WordPost (wordL l k.toNat) W) from by have := refWord_any _ l k.toNat W hR (by omega); rwa [Int.toNat_of_nonneg h0] at this))
  have HE := hid (fun W (n : Int) (hn : 0 ≤ n ∧ n ≤ 65535) => refHead_any V bs V2 bs2 17 n W h h2 (by omega) hn)
  have HL := hid (headL_len V (bs := bs) (bs2 := bs2) 17 l.length h.len h2.len)
  have HB2 := hid (fun (hn : l.length ≤ 65535) => (headL_byt (V := V) (proto := 17) (n := l.length) h.byt h2.byt (by omega) (by omega)).append hb.byt)
  have hw4 := wordL_bd hb.byt 4
  have hw6 := wordL_bd hb.byt 6
  have hw0 := wordL_bd hb.byt 0
  have hw2 := wordL_bd hb.byt 2
  have hmv : mostV V ≤ 65527 := by unfold mostV; split <;> omega
  have B0 := hid (Below.refl (((w.alloc (.cells (addrC V bs) 24)).alloc (.cells (addrC V2 bs2) 24)).alloc (.cells #[.int .i64 0, .int .i64 0, .bool false, .slice none 0 0] 35)).heap.size (((w.alloc (.cells (addrC V bs) 24)).alloc (.cells (addrC V2 bs2) 24)).alloc (.cells #[.int .i64 0, .int .i64 0, .bool false, .slice none 0 0] 35)))
  have EE : Hid (pgE V bs V2 bs2 l = if pairA V bs V2 bs2 = false then 1 else if l.length < 8 then 20 else if wordL l 4 ≠ (l.length : Int) ∨ mostV V < (l.length : Int) - 8 then 51
    else if (wordL l 6 = 0 ∧ V = 6) ∨ (wordL l 6 ≠ 0 ∧ partL (headL V bs bs2 17 (l.length : Int) ++ l) ≠ 65535) then 52 else 0) := hid rfl
  generalize pgE V bs V2 bs2 l = e at *
  generalize mostV V = mv at *
  generalize hpp : partL (headL V bs bs2 17 l.length ++ l) = pp at *
  have PP := hid hpp
  clear hpp
  generalize pairA V bs V2 bs2 = vp at *
  generalize hx0 : wordL l 0 = x0 at *
  generalize hx2 : wordL l 2 = x2 at *
  generalize hx4 : wordL l 4 = x4 at *
  generalize hx6 : wordL l 6 = x6 at *
  have HX0 : Hid (wordL l (0 : Int).toNat = x0) := hid hx0; have HX2 : Hid (wordL l (2 : Int).toNat = x2) := hid hx2; have HX4 : Hid (wordL l (4 : Int).toNat = x4) := hid hx4; have HX6 : Hid (wordL l (6 : Int).toNat = x6) := hid hx6
  have HZ := hid hz
  clear a1 a2 a3 bb h h2 hb hx0 hx2 hx4 hx6 hz
  unfold addrV at *
  go_enter Try.func17, Try.ntmps17
  go_upto_region 1 with fail
  generalize (((w.alloc (.cells (addrC V bs) 24)).alloc (.cells (addrC V2 bs2) 24)).alloc (.cells #[.int .i64 0, .int .i64 0, .bool false, .slice none 0 0] 35)) = w1 at *
  obtain ⟨A1, A2, c1, ⟨d0, d1, d2, d3⟩, ⟨f0, f1, f2, f3⟩, HR, BW⟩ := DD.out _ B0.out
  replace A1 := hid A1
  replace A2 := hid A2
  replace HR := hid HR
  replace BW := hid BW
  have w' := w1
  go_wp2_with (first | go_skip | ((with_reducible show wpList _ _ _ _ _ _); first | (refine wpList_cmp (by rfl) _ (by rfl) _ _ _ _ rfl _ (by go_simp; exact rfl) ?_ ?_ <;> (intro hc; (try simp only [decide_eq_true_eq, decide_eq_false_iff_not, Int.not_lt] at hc); go_prune)) | (refine wpList_load_addr (by rfl) _ rfl _ _ _ rfl A1.out H.out.len ?_) | (refine wpList_load_addr (by rfl) _ rfl _ _ _ rfl A2.out H2.out.len ?_) | (refine wpList_cat (by rfl) _ _ rfl w1.heap.size v6 _ rfl O6.out _ l rfl HR.out _ rfl (by have h5 : l.length ≤ 65535 := (by simp only [bne_eq_false_iff_eq] at *; omega); have := HL.out; omega) ?_; intro a7 c7 w' hO hB hat; replace B0 := hid (B0.out.trans hB); have O7 := hid hO; clear hO hB hat; clear A1 A2 c1 d0 d1 d2 d3 f0 f1 f2 f3 HR BW; obtain ⟨A1, A2, c1, ⟨d0, d1, d2, d3⟩, ⟨f0, f1, f2, f3⟩, HR, BW⟩ := DD.out _ B0.out; replace A1 := hid A1; replace A2 := hid A2; replace HR := hid HR; replace BW := hid BW)) | (go_at_call 26; refine (P.out _).mono ?_; rintro en w' ⟨rfl, hb⟩; replace B0 := hid (B0.out.trans (hb.mono B0.out.size)); clear hb; clear A1 A2 c1 d0 d1 d2 d3 f0 f1 f2 f3 HR BW; obtain ⟨A1, A2, c1, ⟨d0, d1, d2, d3⟩, ⟨f0, f1, f2, f3⟩, HR, BW⟩ := DD.out _ B0.out; replace A1 := hid A1; replace A2 := hid A2; replace HR := hid HR; replace BW := hid BW; cases vp) | (go_at_call 41; refine (WR.out _ _ HR.out (by omega) (by omega)).mono ?_; rintro en w' ⟨rfl, hS⟩; simp only [HX4.out, HX6.out, HX0.out, HX2.out]; replace B0 := hid (B0.out.trans (hS.same.below _)); clear hS; clear A1 A2 c1 d0 d1 d2 d3 f0 f1 f2 f3 HR BW; obtain ⟨A1, A2, c1, ⟨d0, d1, d2, d3⟩, ⟨f0, f1, f2, f3⟩, HR, BW⟩ := DD.out _ B0.out; replace A1 := hid A1; replace A2 := hid A2; replace HR := hid HR; replace BW := hid BW) | (go_at_call 37; refine (M.out _).mono ?_; rintro en w' ⟨rfl, hb⟩; replace B0 := hid (B0.out.trans (hb.mono B0.out.size)); clear hb; clear A1 A2 c1 d0 d1 d2 d3 f0 f1 f2 f3 HR BW; obtain ⟨A1, A2, c1, ⟨d0, d1, d2, d3⟩, ⟨f0, f1, f2, f3⟩, HR, BW⟩ := DD.out _ B0.out; replace A1 := hid A1; replace A2 := hid A2; replace HR := hid HR; replace BW := hid BW) | (go_at_call 28; refine (HE.out _ _ (by omega)).mono ?_; rintro en w' ⟨v6, rfl, ho, hb⟩; have O6 := hid (OwnB.mono (OwnB.mk ho hb.size) B0.out.size); replace B0 := hid (B0.out.trans (hb.mono B0.out.size)); clear ho hb; clear A1 A2 c1 d0 d1 d2 d3 f0 f1 f2 f3 HR BW; obtain ⟨A1, A2, c1, ⟨d0, d1, d2, d3⟩, ⟨f0, f1, f2, f3⟩, HR, BW⟩ := DD.out _ B0.out; replace A1 := hid A1; replace A2 := hid A2; replace HR := hid HR; replace BW := hid BW) | (go_at_call 27; refine (refPart_any _ _ _ (O7.out.rb (HB2.out (by simp only [bne_eq_false_iff_eq] at *; omega))) (by have h5 : l.length ≤ 65535 := (by simp only [bne_eq_false_iff_eq] at *; omega); have := HL.out; simp; omega)).mono ?_; rintro en w'' ⟨rfl, rfl⟩; simp only [PP.out]))
  all_goals
    clear HE M P WR HB2
    have hEE := EE.out
    clear EE
  all_goals first
    | (have he : e = 1 := by (rw [hEE]; simp; done)
       exact bodyPost_ret (v := .tuple #[.agg #[.int .i64 0, .int .i64 0, .bool false, .slice none 0 0], .int .i64 _]) (by simp [results, Try.results17, go_sem, d0, d1, d2, d3]; rfl) rfl (by rw [he]; exact PgPost.err (by decide) ((((BW.out.setCell (by simp; omega) _).setCell (by simp; omega) _).setCell (by simp; omega) _).setCell (by simp; omega) _)))
    | (have he : e = 20 := by (clear DD; rw [hEE]; simp; omega)
       exact bodyPost_ret (v := .tuple #[.agg #[.int .i64 0, .int .i64 0, .bool false, .slice none 0 0], .int .i64 _]) (by simp [results, Try.results17, go_sem, d0, d1, d2, d3]; rfl) rfl (by rw [he]; exact PgPost.err (by decide) ((((BW.out.setCell (by simp; omega) _).setCell (by simp; omega) _).setCell (by simp; omega) _).setCell (by simp; omega) _)))
    | (have he : e = 51 := by (clear DD; rw [hEE, if_neg (by simp), if_neg (by omega), if_pos (by simp_all)])
       exact bodyPost_ret (v := .tuple #[.agg #[.int .i64 0, .int .i64 0, .bool false, .slice none 0 0], .int .i64 _]) (by simp [results, Try.results17, go_sem, d0, d1, d2, d3]; rfl) rfl (by rw [he]; exact PgPost.err (by decide) ((((BW.out.setCell (by simp; omega) _).setCell (by simp; omega) _).setCell (by simp; omega) _).setCell (by simp; omega) _)))
    | (have he : e = 52 := by (clear DD; rw [hEE, if_neg (by simp), if_neg (by omega), if_neg (by simp_all), if_pos (by simp_all)])
       exact bodyPost_ret (v := .tuple #[.agg #[.int .i64 0, .int .i64 0, .bool false, .slice none 0 0], .int .i64 _]) (by simp [results, Try.results17, go_sem, d0, d1, d2, d3]; rfl) rfl (by rw [he]; exact PgPost.err (by decide) ((((BW.out.setCell (by simp; omega) _).setCell (by simp; omega) _).setCell (by simp; omega) _).setCell (by simp; omega) _)))
    | skip
  all_goals
    have he : e = 0 := by (clear DD; rw [hEE, if_neg (by simp), if_neg (by omega), if_neg (by simp_all), if_neg (by simp_all)])
  all_goals
    obtain ⟨i0, hi, hz0, hz1, hz2⟩ := info_parts Try.info5
    obtain ⟨q8, hq⟩ : ∃ q8, q8 = l.drop 8 := ⟨_, rfl⟩
    have hql : q8.length = l.length - 8 := by rw [hq]; simp
    have HQ := hid hq.symm
    have hsl9 : ∀ W, Sem.run Try.prog (Instr.slice 33 (.slice ab l.length cb) (some (.int .i64 8)) none none) W = .ok (.slice (subA ab 8 cb) q8.length (cb - 8)) W := fun W => by
      rw [hql]; exact run_slice_l_sub (P := Try.prog) 33 5 Try.underlying33 hi hz1 ab l.length cb .i64 8 8 rfl (by omega) W
    have DR : Hid (Rb w' (.slice (subA ab 8 cb) q8.length (cb - 8)) q8) := hid (by rw [hql, hq]; exact HR.out.back 8 (by omega))
    have e8 := hid hql
    have HE0 := hid he
    clear hql hq hEE he
    have FIN := hid (fun W v (hO : W.ownsRow w.heap.size 5 1 v q8.length (bts q8)) (hB : Below w.heap.size w W) => (show PgPost e l w (.returned (.tuple #[.agg #[.int .i64 x0, .int .i64 x2, .bool (decide (x6 = 0)), v], .int .i64 0])) W from ⟨hB, fun h => absurd HE0.out h, fun _ => ⟨v, by have h0 : wordL l 0 = x0 := HX0.out; have h2 : wordL l 2 = x2 := HX2.out; have h6 : wordL l 6 = x6 := HX6.out; rw [h0, h2, h6], by rw [HQ.out]; exact hO⟩⟩))
    first
    | (have hz6 : decide (x6 = 0) = true := by (clear DD; simp_all; done)
       rw [hz6] at FIN; clear hz6)
    | (have hz6 : decide (x6 = 0) = false := by (clear DD; simp_all; done)
       rw [hz6] at FIN; clear hz6)
    have e9 := e8
    clear HX0 HX2 HX4 HX6 PP
    go_region_law ((refine step_append_bytes rfl _ _ 33 rfl (w'.heap.size + 1) 5 i0 _ Try.underlying33 hi hz0 hz1 hz2 rfl (.slice none 0 0) 0 [] rfl (World.ownsRow_nil _ _ _ _) _ q8 rfl ((DR.out.below (bel_alloc w' _)).same (Same.drew _)) (by have := e9.out; omega) (by simp) ?_; intro a2 c2 w2 ho hg hat; have e2 := (hg.block w'.heap.size (by simp) (by simp [Value.ownBlock])).trans (heap_alloc_new w' _); obtain ⟨g0, g1, g2, g3⟩ := cells4 e2; obtain ⟨k0, k1, k2, k3⟩ := frozen4 e2))
    rw [Nat.zero_add] at ho
    have ho : w2.ownsRow (w'.heap.size + 1) 5 1 (.slice a2 q8.length c2) q8.length (bts q8) := ho
    obtain ⟨w3, hw3⟩ : ∃ w3, w3 = w2.setCell ⟨w'.heap.size, 3, none⟩ (.slice a2 q8.length c2) := ⟨_, rfl⟩
    rw [← hw3]
    have e3 := heap_store (o := 3) e2 (.slice a2 q8.length c2)
    rw [← hw3] at e3
    obtain ⟨p0, p1, p2, p3⟩ := cells4 e3
    have B3 : Hid (Below w'.heap.size w' w3) := hid (by
      rw [hw3]
      exact (((Below.refl _ _).alloc (Nat.le_refl _) _).drew.grown hg (by simp) (fun k hk => by simp [Value.ownBlock] at hk)).setCell (by simp) _)
    have hs7 := B0.out.size
    have hz := HZ.out
    have O3 : Hid (w3.ownsRow (w.heap.size + 3) 5 1 (.slice a2 q8.length c2) q8.length (bts q8)) := hid (own_base (own_move ho fun g hg' _ => by
      rw [hw3]
      exact Below.heap_setCell _ _ _ _ (fun e => by have := (ho.lt g hg').1; simp only at e; omega)) (show w.heap.size + 3 ≤ _ by omega))
    replace B0 := hid (B0.out.trans (B3.out.mono hs7))
    clear ho hg hat e2 g0 g1 g2 g3 k0 k1 k2 k3 hw3 e3
    clear A1 A2 c1 d0 d1 d2 d3 f0 f1 f2 f3 HR BW; obtain ⟨A1, A2, c1, ⟨d0, d1, d2, d3⟩, ⟨f0, f1, f2, f3⟩, HR, BW⟩ := DD.out _ B0.out; replace A1 := hid A1; replace A2 := hid A2; replace HR := hid HR; replace BW := hid BW
    have hs9 := B3.out.size
    generalize hn8 : q8.length = n8 at *
    go_wp2_with fail
    first
    | exact bodyPost_ret (v := .tuple #[.agg #[.int .i64 x0, .int .i64 x2, .bool true, .slice a2 n8 c2], .int .i64 0]) (by simp [results, Try.results17, go_sem, d0, d1, d2, d3]) rfl (FIN.out _ _ (own_set4 O3.out) ((((BW.out.setCell (by simp; omega) _).setCell (by simp; omega) _).setCell (by simp; omega) _).setCell (by simp; omega) _))
    | exact bodyPost_ret (v := .tuple #[.agg #[.int .i64 x0, .int .i64 x2, .bool false, .slice a2 n8 c2], .int .i64 0]) (by simp [results, Try.results17, go_sem, d0, d1, d2, d3]) rfl (FIN.out _ _ (own_set4 O3.out) ((((BW.out.setCell (by simp; omega) _).setCell (by simp; omega) _).setCell (by simp; omega) _).setCell (by simp; omega) _))

end Go.Proofs.Ytpiafmnfneefiaa
