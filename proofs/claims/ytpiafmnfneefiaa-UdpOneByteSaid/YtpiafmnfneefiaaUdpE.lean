/-
  package udp: Parse.
-/
import Derived.Test.YtpiafmnfneefiaaUdpD
namespace Go.Proofs.Ytpiafmnfneefiaa
open Go.RowKit

def pgE (V : Int) (bs : List Int) (V2 : Int) (bs2 : List Int) (l : List Int) : Int :=
  if pairA V bs V2 bs2 = false then 1 else if l.length < 8 then 20 else if wordL l 4 ≠ (l.length : Int) ∨ mostV V < (l.length : Int) - 8 then 51
  else if (wordL l 6 = 0 ∧ V = 6) ∨ (wordL l 6 ≠ 0 ∧ partL (headL V bs bs2 17 (l.length : Int) ++ l) ≠ 65535) then 52 else 0
theorem own_set4 {w : World} {b : Nat} {e : TypeId} {k : Nat} {v : Value} {n : Nat} {xs : List Value} {x0 x1 x2 x3 : Value} {i0 i1 i2 i3 : Nat}
    (h : w.ownsRow (b + 3) e k v n xs) : ((((w.setCell ⟨b + 1 + 1, i0, none⟩ x0).setCell ⟨b + 1 + 1, i1, none⟩ x1).setCell ⟨b + 1 + 1, i2, none⟩ x2).setCell ⟨b + 1 + 1, i3, none⟩ x3).ownsRow b e k v n xs := by
  have step : ∀ {w : World} {x : Value} {i : Nat}, w.ownsRow (b + 3) e k v n xs → (w.setCell ⟨b + 1 + 1, i, none⟩ x).ownsRow (b + 3) e k v n xs := fun h =>
    own_move h fun g hg _ => Below.heap_setCell _ _ _ _ (fun e => by have := (h.lt g hg).1; simp only at e; omega)
  exact own_base (step (step (step (step h)))) (by omega)
theorem gt_take {l : List Int} {n k : Nat} (h : k < n) : gt (l.take n) k = gt l k := by
  simp [gt, h]
theorem r16_at (base rb : Nat) (l : List Int) (k : Nat) (w : World) (h : RdB base w rb ((l.take 8).drop k)) (hl : 8 ≤ l.length) (hk : k + 2 ≤ 8) :
    Calls Try.prog 40 #[.pointer (some ⟨rb, 0, none⟩)] w (RGetPost base rb ((l.take 8).drop (k + 2)) (.int .u16 (wordL l k)) w) := by
  have := r16_own base rb _ w h (by simp; omega)
  rw [bev2 (by simp; omega), List.drop_drop] at this
  have e : wordL (l.take 8) k = wordL l k := by
    unfold wordL
    rw [gt_take (by omega), gt_take (by omega)]
  rwa [e] at this
/-- what Parse tells: the datagram, or nothing and the error -/
def PgPost (e : Int) (l : List Int) (w : World) (en : Ending) (w' : World) : Prop :=
  Below w.heap.size w w' ∧ (e ≠ 0 → en = .returned (.tuple #[.agg #[.int .i64 0, .int .i64 0, .bool false, .slice none 0 0], .int .i64 e])) ∧
    (e = 0 → ∃ v, en = .returned (.tuple #[.agg #[.int .i64 (wordL l 0), .int .i64 (wordL l 2), .bool (decide (wordL l 6 = 0)), v], .int .i64 0]) ∧ w'.ownsRow w.heap.size 5 1 v (l.drop 8).length (bts (l.drop 8)))
theorem PgPost.err {e : Int} {l : List Int} {w w' : World} (he : e ≠ 0) (hb : Below w.heap.size w w') : PgPost e l w (.returned (.tuple #[.agg #[.int .i64 0, .int .i64 0, .bool false, .slice none 0 0], .int .i64 e])) w' :=
  ⟨hb, fun _ => rfl, fun h => absurd h he⟩
set_option maxHeartbeats 6400000 in
set_option maxRecDepth 20000 in
theorem parse_any (V : Int) (bs : List Int) (V2 : Int) (bs2 : List Int) (bv : Value) (l : List Int) (w : World) (h : IsA V bs) (h2 : IsA V2 bs2) (hb : Rb w bv l) :
    Calls Try.prog 16 #[addrV V bs, addrV V2 bs2, bv] w (PgPost (pgE V bs V2 bs2 l) l w) := by
  obtain ⟨i0, hi, hz0, hz1, hz2⟩ := info_parts Try.info5
  have H := hid h
  have H2 := hid h2
  have HB := hid hb
  obtain ⟨ab, cb, rfl, hcb, hmb, _⟩ := hb.open
  unfold maxLen at hmb
  obtain ⟨a1, a2, a3, bb⟩ := dg_boxes w V bs V2 bs2 #[.int .i64 0, .int .i64 0, .bool false, .slice none 0 0] 35
  have A1 := hid a1
  have A2 := hid a2
  have A3 := hid a3
  have BB := hid bb
  have P := fun W => pair_any V bs V2 bs2 W h h2
  have WH := fun bv l W (hp : pairA V bs V2 bs2 = true) (hb : Rb W bv l) (hl : l.length ≤ 65535) => whole_any V bs V2 bs2 bv l W h h2 hp hb hl
  have EE : Hid (pgE V bs V2 bs2 l = if pairA V bs V2 bs2 = false then 1 else if l.length < 8 then 20 else if wordL l 4 ≠ (l.length : Int) ∨ mostV V < (l.length : Int) - 8 then 51
    else if (wordL l 6 = 0 ∧ V = 6) ∨ (wordL l 6 ≠ 0 ∧ partL (headL V bs bs2 17 (l.length : Int) ++ l) ≠ 65535) then 52 else 0) := hid rfl
  generalize pgE V bs V2 bs2 l = e at *
  generalize hvp : pairA V bs V2 bs2 = vp at *
  have P := hid P
  have WH := hid WH
  clear a1 a2 a3 bb h h2 hb hvp
  unfold addrV at *
  go_enter Try.func16, Try.ntmps16
  go_upto_region 1 with fail
  generalize ((w.alloc (.cells (addrC V bs) 24)).alloc (.cells (addrC V2 bs2) 24)).alloc (.cells #[.int .i64 0, .int .i64 0, .bool false, .slice none 0 0] 35) = w1 at *
  go_wp2_with (first | (refine wpList_load_addr rfl _ rfl _ _ _ rfl A1.out H.out.len ?_) | (refine wpList_load_addr rfl _ rfl _ _ _ rfl A2.out H2.out.len ?_))
  refine (P.out _).mono ?_
  rintro en w2 ⟨rfl, hb⟩
  have BB2 := hid (BB.out.trans (hb.mono BB.out.size))
  have A12 := hid (A1.out.below hb)
  have A22 := hid (A2.out.below hb)
  have A32 := hid (blk_below A3.out hb)
  have HB2 := hid (HB.out.below BB2.out)
  clear hb A1 A2 A3 BB
  cases vp
  · have he : e = 1 := by rw [EE.out]; simp
    have F := hid (fun W (hW : Below w.heap.size w W) => (show PgPost e l w (.returned (.tuple #[.agg #[.int .i64 0, .int .i64 0, .bool false, .slice none 0 0], .int .i64 1])) W by rw [he]; exact PgPost.err (by decide) hW))
    obtain ⟨d0, d1, d2, d3⟩ := cells4 A32.out
    obtain ⟨f0, f1, f2, f3⟩ := frozen4 A32.out
    clear he EE
    go_wp2_with fail
    exact bodyPost_ret (v := .tuple #[.agg #[.int .i64 0, .int .i64 0, .bool false, .slice none 0 0], .int .i64 1]) (by simp [results, Try.results16, go_sem, d0, d1, d2, d3]) rfl (F.out _ ((((BB2.out.setCell (by simp; omega) _).setCell (by simp; omega) _).setCell (by simp; omega) _).setCell (by simp; omega) _))
  · have EE2 := hid (show e = if l.length < 8 then 20 else if wordL l 4 ≠ (l.length : Int) ∨ mostV V < (l.length : Int) - 8 then 51
      else if (wordL l 6 = 0 ∧ V = 6) ∨ (wordL l 6 ≠ 0 ∧ partL (headL V bs bs2 17 (l.length : Int) ++ l) ≠ 65535) then 52 else 0 by rw [EE.out]; simp)
    clear EE
    by_cases h8 : l.length < 8
    · have he : e = 20 := by rw [EE2.out, if_pos h8]
      have F := hid (fun W (hW : Below w.heap.size w W) => (show PgPost e l w (.returned (.tuple #[.agg #[.int .i64 0, .int .i64 0, .bool false, .slice none 0 0], .int .i64 20])) W by rw [he]; exact PgPost.err (by decide) hW))
      have hd8 : decide ((l.length : Int) < 8) = true := by simp; omega
      obtain ⟨d0, d1, d2, d3⟩ := cells4 A32.out
      obtain ⟨f0, f1, f2, f3⟩ := frozen4 A32.out
      clear he EE2
      go_wp2_with fail
      exact bodyPost_ret (v := .tuple #[.agg #[.int .i64 0, .int .i64 0, .bool false, .slice none 0 0], .int .i64 20]) (by simp [results, Try.results16, go_sem, d0, d1, d2, d3]) rfl (F.out _ ((((BB2.out.setCell (by simp; omega) _).setCell (by simp; omega) _).setCell (by simp; omega) _).setCell (by simp; omega) _))
    · have hd8 : decide ((l.length : Int) < 8) = false := by simp; omega
      have H8 := hid (show 8 ≤ l.length by omega)
      have EE := hid (show e = if wordL l 4 ≠ (l.length : Int) ∨ mostV V < (l.length : Int) - 8 then 51
        else if (wordL l 6 = 0 ∧ V = 6) ∨ (wordL l 6 ≠ 0 ∧ partL (headL V bs bs2 17 (l.length : Int) ++ l) ≠ 65535) then 52 else 0 by rw [EE2.out, if_neg h8])
      have hsl8 : ∀ W, Sem.run Try.prog (Instr.slice 33 (.slice ab l.length cb) none (some (.int .i64 8)) none) W = .ok (.slice ab 8 cb) W := fun W =>
        run_slice_h_sub (P := Try.prog) 33 5 Try.underlying33 hi hz1 ab l.length cb .i64 8 8 rfl (by omega) W
      obtain ⟨q8, hq⟩ : ∃ q8, q8 = l.drop 8 := ⟨_, rfl⟩
      have hql : q8.length = l.length - 8 := by rw [hq]; simp
      have HQ := hid hq.symm
      have hsl9 : ∀ W, Sem.run Try.prog (Instr.slice 33 (.slice ab l.length cb) (some (.int .i64 8)) none none) W = .ok (.slice (subA ab 8 cb) q8.length (cb - 8)) W := fun W => by
        rw [hql]; exact run_slice_l_sub (P := Try.prog) 33 5 Try.underlying33 hi hz1 ab l.length cb .i64 8 8 rfl (by omega) W
      have RF := hid (HB2.out.front 8 (by omega))
      have RD := hid (fun W (hW : Rb W (.slice ab l.length cb) l) => (show Rb W (.slice (subA ab 8 cb) q8.length (cb - 8)) q8 by rw [hql, hq]; exact hW.back 8 (by omega)))
      have e8 := hid hql
      clear hql hq
      have DC := hid (fun W (hW : Below w2.heap.size w2 W) => cells4 (blk_below A32.out hW))
      have DF := hid (fun W (hW : Below w2.heap.size w2 W) => frozen4 (blk_below A32.out hW))
      have hbyt := HB.out.byt
      have R16 := hid (fun (base rb : Nat) (W : World) (k : Nat) (hk : k + 2 ≤ 8) (hR : RdB base W rb ((l.take 8).drop k)) => r16_at base rb l k W hR H8.out hk)
      have b0 := wordL_bd hbyt 0
      have b1 := wordL_bd hbyt 2
      have b2 := wordL_bd hbyt 4
      have b3 := wordL_bd hbyt 6
      clear EE2 h8 hbyt
      go_wp2_with fail
      refine (rnew_own _ (l.take 8) _ RF.out (by simp; omega)).mono ?_
      rintro en w3 ⟨rb, rfl, hR, hb⟩
      have R3 := hid hR
      have B3 := hid hb
      clear hR hb
      go_wp2_with fail
      refine (R16.out _ rb _ 0 (by decide) (by rw [List.drop_zero]; exact R3.out)).mono ?_
      rintro en w4 ⟨rfl, hR, hb⟩
      have R4 := hid hR
      have B4 := hid (B3.out.trans hb)
      clear hR hb R3 B3
      go_wp2_with fail
      refine (R16.out _ rb _ 2 (by decide) R4.out).mono ?_
      rintro en w5 ⟨rfl, hR, hb⟩
      have R5 := hid hR
      have B5 := hid (B4.out.trans hb)
      clear hR hb R4 B4
      go_wp2_with fail
      refine (R16.out _ rb _ 4 (by decide) R5.out).mono ?_
      rintro en w6 ⟨rfl, hR, hb⟩
      have R6 := hid hR
      have B6 := hid (B5.out.trans hb)
      clear hR hb R5 B5
      go_wp2_with fail
      refine (R16.out _ rb _ 6 (by decide) R6.out).mono ?_
      rintro en w7 ⟨rfl, hR, hb⟩
      have B7 := hid (B6.out.trans hb)
      clear hR hb R6 B6 R16
      have BB7 := hid (BB2.out.trans (B7.out.mono BB2.out.size))
      have A17 := hid (A12.out.below B7.out)
      have A27 := hid (A22.out.below B7.out)
      have A37 := hid (blk_below A32.out B7.out)
      have HB7 := hid (HB2.out.below B7.out)
      have c1 := A17.out.v
      obtain ⟨d0, d1, d2, d3⟩ := cells4 A37.out
      obtain ⟨f0, f1, f2, f3⟩ := frozen4 A37.out
      clear A12 A22 A32 BB2 HB2 B7 DC DF RF
      by_cases hne : wordL l 4 = (l.length : Int)
      · by_cases hlong : mostV V < (l.length : Int) - 8
        · have he : e = 51 := by rw [EE.out, if_pos (Or.inr hlong)]
          have F := hid (fun W (hW : Below w.heap.size w W) => (show PgPost e l w (.returned (.tuple #[.agg #[.int .i64 0, .int .i64 0, .bool false, .slice none 0 0], .int .i64 51])) W by rw [he]; exact PgPost.err (by decide) hW))
          have M := most_any V w7
          generalize hmm : mostV V = mv at *
          have M := hid M
          have hdl : decide (mv < (l.length : Int) - 8) = true := decide_eq_true hlong
          clear he EE hmm
          generalize wordL l 0 = s0 at *
          generalize wordL l 2 = s1 at *
          generalize wordL l 4 = s2 at *
          generalize wordL l 6 = s3 at *
          subst hne
          go_wp2_with fail
          refine M.out.mono ?_
          rintro en w8 ⟨rfl, rfl⟩
          go_wp2_with fail
          exact bodyPost_ret (v := .tuple #[.agg #[.int .i64 0, .int .i64 0, .bool false, .slice none 0 0], .int .i64 51]) (by simp [results, Try.results16, go_sem, d0, d1, d2, d3]) rfl (F.out _ ((((BB7.out.setCell (by simp; omega) _).setCell (by simp; omega) _).setCell (by simp; omega) _).setCell (by simp; omega) _))
        · have EE2 := hid (show e = if (wordL l 6 = 0 ∧ V = 6) ∨ (wordL l 6 ≠ 0 ∧ partL (headL V bs bs2 17 (l.length : Int) ++ l) ≠ 65535) then 52 else 0 by rw [EE.out, if_neg (by omega)])
          have M := most_any V w7
          have hdl : decide (mostV V < (l.length : Int) - 8) = false := decide_eq_false hlong
          have hl16 : l.length ≤ 65535 := by omega
          generalize mostV V = mv at *
          have M := hid M
          have WA := hid (WH.out (.slice ab l.length cb) l w7 trivial HB7.out hl16)
          have SL := hid (show subA ab 8 cb = subA ab 8 cb from rfl)
          -- the good end, from the region that lays the datagram on
          clear EE hlong
          by_cases h36 : wordL l 6 = 0 ∧ V = 6
          · have he : e = 52 := by rw [EE2.out, if_pos (Or.inl h36)]
            have F := hid (fun W (hW : Below w.heap.size w W) => (show PgPost e l w (.returned (.tuple #[.agg #[.int .i64 0, .int .i64 0, .bool false, .slice none 0 0], .int .i64 52])) W by rw [he]; exact PgPost.err (by decide) hW))
            clear he EE2 WA WH
            generalize wordL l 0 = s0 at *
            generalize wordL l 2 = s1 at *
            generalize wordL l 4 = s2 at *
            generalize wordL l 6 = s3 at *
            obtain ⟨rfl, rfl⟩ := h36
            subst hne
            go_wp2_with fail
            refine M.out.mono ?_
            rintro en w8 ⟨rfl, rfl⟩
            go_wp2_with fail
            exact bodyPost_ret (v := .tuple #[.agg #[.int .i64 0, .int .i64 0, .bool false, .slice none 0 0], .int .i64 52]) (by simp [results, Try.results16, go_sem, d0, d1, d2, d3]) rfl (F.out _ ((((BB7.out.setCell (by simp; omega) _).setCell (by simp; omega) _).setCell (by simp; omega) _).setCell (by simp; omega) _))
          · by_cases h3 : wordL l 6 = 0
            · have hV6 : (V == 6) = false := by simp; intro h; exact h36 ⟨h3, h⟩
              have he : e = 0 := by rw [EE2.out, if_neg (by intro h; rcases h with h | h; exact h36 h; exact h.1 h3)]
              clear EE2 h36 WA WH
              have FIN := hid (fun W v (hO : W.ownsRow w.heap.size 5 1 v q8.length (bts q8)) (hB : Below w.heap.size w W) => (show PgPost e l w (.returned (.tuple #[.agg #[.int .i64 (wordL l 0), .int .i64 (wordL l 2), .bool true, v], .int .i64 0])) W from ⟨hB, fun h => absurd he h, fun _ => ⟨v, by rw [show decide (wordL l 6 = 0) = true by simp [h3]], by rw [HQ.out]; exact hO⟩⟩))
              rw [h3] at *
              generalize wordL l 0 = s0 at *
              generalize wordL l 2 = s1 at *
              generalize wordL l 4 = s2 at *
              subst hne
              go_wp2_with fail
              refine M.out.mono ?_
              rintro en w8 ⟨rfl, rfl⟩
              go_upto_region 12 with fail
              have DR := hid (RD.out _ HB7.out)
              have e9 := e8
              go_region_law ((refine step_append_bytes rfl _ _ 33 rfl (w7.heap.size + 1) 5 i0 _ Try.underlying33 hi hz0 hz1 hz2 rfl (.slice none 0 0) 0 [] rfl (World.ownsRow_nil _ _ _ _) _ q8 rfl ((DR.out.below (bel_alloc w7 (.cells #[.int .i64 s0, .int .i64 s1, .bool true, .slice none 0 0] 35))).same (Same.drew _)) (by have := e9.out; omega) (by simp) ?_; intro a2 c2 w2 ho hg hat; have e2 := (hg.block w7.heap.size (by simp) (by simp [Value.ownBlock])).trans (heap_alloc_new w7 (.cells #[.int .i64 s0, .int .i64 s1, .bool true, .slice none 0 0] 35)); obtain ⟨g0, g1, g2, g3⟩ := cells4 e2; obtain ⟨k0, k1, k2, k3⟩ := frozen4 e2))
              rw [Nat.zero_add] at ho
              have ho : w2.ownsRow (w7.heap.size + 1) 5 1 (.slice a2 q8.length c2) q8.length (bts q8) := ho
              obtain ⟨w3, hw3⟩ : ∃ w3, w3 = w2.setCell ⟨w7.heap.size, 3, none⟩ (.slice a2 q8.length c2) := ⟨_, rfl⟩
              rw [← hw3]
              have e3 := heap_store (o := 3) e2 (.slice a2 q8.length c2)
              rw [← hw3] at e3
              obtain ⟨p0, p1, p2, p3⟩ := cells4 e3
              have B3 : Hid (Below w7.heap.size w7 w3) := hid (by
                rw [hw3]
                exact (((Below.refl _ _).alloc (Nat.le_refl _) _).drew.grown hg (by simp) (fun k hk => by simp [Value.ownBlock] at hk)).setCell (by simp) _)
              have hs7 := BB7.out.size
              have hlt := (Array.getElem?_eq_some_iff.1 A37.out).1
              have O3 : Hid (w3.ownsRow (w.heap.size + 3) 5 1 (.slice a2 q8.length c2) q8.length (bts q8)) := hid (own_base (own_move ho fun g hg' _ => by
                rw [hw3]
                exact Below.heap_setCell _ _ _ _ (fun e => by have := (ho.lt g hg').1; simp only at e; omega)) (show w.heap.size + 3 ≤ _ by omega))
              have A9 := blk_below A37.out B3.out
              have BB9 := hid (BB7.out.trans (B3.out.mono hs7))
              clear d0 d1 d2 d3 f0 f1 f2 f3 ho hg hat e2 g0 g1 g2 g3 k0 k1 k2 k3 hw3 e3
              obtain ⟨d0, d1, d2, d3⟩ := cells4 A9
              obtain ⟨f0, f1, f2, f3⟩ := frozen4 A9
              have hs9 := B3.out.size
              clear A9
              generalize hn8 : q8.length = n8 at *
              go_wp2_with fail
              exact bodyPost_ret (v := .tuple #[.agg #[.int .i64 s0, .int .i64 s1, .bool true, .slice a2 n8 c2], .int .i64 0]) (by simp [results, Try.results16, go_sem, d0, d1, d2, d3]) rfl (FIN.out _ _ (own_set4 O3.out) ((((BB9.out.setCell (by simp; omega) _).setCell (by simp; omega) _).setCell (by simp; omega) _).setCell (by simp; omega) _))
            · by_cases hsum : partL (headL V bs bs2 17 (l.length : Int) ++ l) = 65535
              · have he : e = 0 := by rw [EE2.out, if_neg (by intro h; rcases h with h | h; exact h36 h; exact h.2 hsum)]
                clear EE2 h36 WH
                have FIN := hid (fun W v (hO : W.ownsRow w.heap.size 5 1 v q8.length (bts q8)) (hB : Below w.heap.size w W) => (show PgPost e l w (.returned (.tuple #[.agg #[.int .i64 (wordL l 0), .int .i64 (wordL l 2), .bool false, v], .int .i64 0])) W from ⟨hB, fun h => absurd he h, fun _ => ⟨v, by rw [show decide (wordL l 6 = 0) = false by simp [h3]], by rw [HQ.out]; exact hO⟩⟩))
                have h30 : (wordL l 6 == 0) = false := by simp [h3]
                rw [hsum] at WA
                generalize wordL l 0 = s0 at *
                generalize wordL l 2 = s1 at *
                generalize wordL l 4 = s2 at *
                generalize wordL l 6 = s3 at *
                clear hsum
                subst hne
                go_wp2_with fail
                refine M.out.mono ?_
                rintro en w8 ⟨rfl, rfl⟩
                go_wp2_with (first | (refine wpList_load_addr (by simp [Region.wanted, go_sem, h3]) _ rfl _ _ _ rfl A17.out H.out.len ?_) | (refine wpList_load_addr (by simp [Region.wanted, go_sem, h3]) _ rfl _ _ _ rfl A27.out H2.out.len ?_))
                refine WA.out.mono ?_
                rintro en w8 ⟨rfl, hb⟩
                have BB8 := hid (BB7.out.trans (hb.mono BB7.out.size))
                have A38 := hid (blk_below A37.out hb)
                have HB8 := hid (HB7.out.below hb)
                clear d0 d1 d2 d3 f0 f1 f2 f3 hb
                obtain ⟨d0, d1, d2, d3⟩ := cells4 A38.out
                obtain ⟨f0, f1, f2, f3⟩ := frozen4 A38.out
                go_upto_region 12 with fail
                have DR := hid (RD.out _ HB8.out)
                have e9 := e8
                go_region_law ((refine step_append_bytes rfl _ _ 33 rfl (w8.heap.size + 1) 5 i0 _ Try.underlying33 hi hz0 hz1 hz2 rfl (.slice none 0 0) 0 [] rfl (World.ownsRow_nil _ _ _ _) _ q8 rfl ((DR.out.below (bel_alloc w8 (.cells #[.int .i64 s0, .int .i64 s1, .bool false, .slice none 0 0] 35))).same (Same.drew _)) (by have := e9.out; omega) (by simp) ?_; intro a2 c2 w2 ho hg hat; have e2 := (hg.block w8.heap.size (by simp) (by simp [Value.ownBlock])).trans (heap_alloc_new w8 (.cells #[.int .i64 s0, .int .i64 s1, .bool false, .slice none 0 0] 35)); obtain ⟨g0, g1, g2, g3⟩ := cells4 e2; obtain ⟨k0, k1, k2, k3⟩ := frozen4 e2))
                rw [Nat.zero_add] at ho
                have ho : w2.ownsRow (w8.heap.size + 1) 5 1 (.slice a2 q8.length c2) q8.length (bts q8) := ho
                obtain ⟨w3, hw3⟩ : ∃ w3, w3 = w2.setCell ⟨w8.heap.size, 3, none⟩ (.slice a2 q8.length c2) := ⟨_, rfl⟩
                rw [← hw3]
                have e3 := heap_store (o := 3) e2 (.slice a2 q8.length c2)
                rw [← hw3] at e3
                obtain ⟨p0, p1, p2, p3⟩ := cells4 e3
                have B3 : Hid (Below w8.heap.size w8 w3) := hid (by
                  rw [hw3]
                  exact (((Below.refl _ _).alloc (Nat.le_refl _) _).drew.grown hg (by simp) (fun k hk => by simp [Value.ownBlock] at hk)).setCell (by simp) _)
                have hs7 := BB8.out.size
                have hlt := (Array.getElem?_eq_some_iff.1 A38.out).1
                have O3 : Hid (w3.ownsRow (w.heap.size + 3) 5 1 (.slice a2 q8.length c2) q8.length (bts q8)) := hid (own_base (own_move ho fun g hg' _ => by
                  rw [hw3]
                  exact Below.heap_setCell _ _ _ _ (fun e => by have := (ho.lt g hg').1; simp only at e; omega)) (show w.heap.size + 3 ≤ _ by omega))
                have A9 := blk_below A38.out B3.out
                have BB9 := hid (BB8.out.trans (B3.out.mono hs7))
                clear d0 d1 d2 d3 f0 f1 f2 f3 ho hg hat e2 g0 g1 g2 g3 k0 k1 k2 k3 hw3 e3
                obtain ⟨d0, d1, d2, d3⟩ := cells4 A9
                obtain ⟨f0, f1, f2, f3⟩ := frozen4 A9
                have hs9 := B3.out.size
                clear A9
                generalize hn8 : q8.length = n8 at *
                go_wp2_with fail
                exact bodyPost_ret (v := .tuple #[.agg #[.int .i64 s0, .int .i64 s1, .bool false, .slice a2 n8 c2], .int .i64 0]) (by simp [results, Try.results16, go_sem, d0, d1, d2, d3]) rfl (FIN.out _ _ (own_set4 O3.out) ((((BB9.out.setCell (by simp; omega) _).setCell (by simp; omega) _).setCell (by simp; omega) _).setCell (by simp; omega) _))
              · have he : e = 52 := by rw [EE2.out, if_pos (Or.inr ⟨h3, hsum⟩)]
                have F := hid (fun W (hW : Below w.heap.size w W) => (show PgPost e l w (.returned (.tuple #[.agg #[.int .i64 0, .int .i64 0, .bool false, .slice none 0 0], .int .i64 52])) W by rw [he]; exact PgPost.err (by decide) hW))
                clear he EE2 h36 WH
                have h30 : (wordL l 6 == 0) = false := by simp [h3]
                generalize partL (headL V bs bs2 17 (l.length : Int) ++ l) = sm at *
                have hs0 : (sm == 65535) = false := by simp [hsum]
                have hs1 : (sm != 65535) = true := by simp [hsum]
                generalize wordL l 0 = s0 at *
                generalize wordL l 2 = s1 at *
                generalize wordL l 4 = s2 at *
                generalize wordL l 6 = s3 at *
                have hs2 : (s3 != 0) = true := by simp [h3]
                subst hne
                go_wp2_with fail
                refine M.out.mono ?_
                rintro en w8 ⟨rfl, rfl⟩
                go_wp2_with (first | (refine wpList_load_addr (by simp [Region.wanted, go_sem]) _ rfl _ _ _ rfl A17.out H.out.len ?_) | (refine wpList_load_addr (by simp [Region.wanted, go_sem]) _ rfl _ _ _ rfl A27.out H2.out.len ?_))
                refine WA.out.mono ?_
                rintro en w8 ⟨rfl, hb⟩
                have BBW := hid (BB7.out.trans (hb.mono BB7.out.size))
                have A38 := hid (blk_below A37.out hb)
                clear d0 d1 d2 d3 f0 f1 f2 f3 hb
                obtain ⟨d0, d1, d2, d3⟩ := cells4 A38.out
                obtain ⟨f0, f1, f2, f3⟩ := frozen4 A38.out
                go_wp2_with fail
                exact bodyPost_ret (v := .tuple #[.agg #[.int .i64 0, .int .i64 0, .bool false, .slice none 0 0], .int .i64 52]) (by simp [results, Try.results16, go_sem, d0, d1, d2, d3]) rfl (F.out _ ((((BBW.out.setCell (by simp; omega) _).setCell (by simp; omega) _).setCell (by simp; omega) _).setCell (by simp; omega) _))
      · have he : e = 51 := by rw [EE.out, if_pos (Or.inl hne)]
        have F := hid (fun W (hW : Below w.heap.size w W) => (show PgPost e l w (.returned (.tuple #[.agg #[.int .i64 0, .int .i64 0, .bool false, .slice none 0 0], .int .i64 51])) W by rw [he]; exact PgPost.err (by decide) hW))
        have hn2 : ((wordL l 4) == (l.length : Int)) = false := by simp [hne]
        clear he EE
        generalize wordL l 0 = s0 at *
        generalize wordL l 2 = s1 at *
        generalize wordL l 4 = s2 at *
        generalize wordL l 6 = s3 at *
        go_wp2_with fail
        exact bodyPost_ret (v := .tuple #[.agg #[.int .i64 0, .int .i64 0, .bool false, .slice none 0 0], .int .i64 51]) (by simp [results, Try.results16, go_sem, d0, d1, d2, d3]) rfl (F.out _ ((((BB7.out.setCell (by simp; omega) _).setCell (by simp; omega) _).setCell (by simp; omega) _).setCell (by simp; omega) _))

end Go.Proofs.Ytpiafmnfneefiaa
