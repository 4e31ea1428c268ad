/-
  Parse, the document's.
-/
import Derived.Test.YtebfbpfikbjjlaaDoorPA04
namespace Go.Proofs.YtebfbpfikbjjlaaDoor
open Go.RowKit

theorem first_cases {l : List Int} (hb : Byt l) : (firstL l = -1 ∧ parseL l = none) ∨ (firstL l = 0 ∧ parseL l = some []) ∨
    ∃ n : Nat, firstL l = n ∧ 1 ≤ n ∧ n ≤ l.length ∧ n ≤ 255 ∧ parseL l = (parseL (l.drop n)).map ((gt l 0, (l.drop 2).take (n - 2)) :: ·) := by
  have e0 : l.drop 0 = l := List.drop_zero
  unfold firstL
  by_cases h0 : l.length = 0
  · rw [if_pos h0, List.length_eq_zero_iff.1 h0, parse_nil]
    exact Or.inr (Or.inl ⟨rfl, rfl⟩)
  · rw [if_neg h0]
    have hx := hb.bd 0
    by_cases hx0 : gt l 0 = 0
    · rw [if_pos hx0]
      have := parse_zero (a := 0) (by omega) hx0
      rw [e0] at this
      rw [this]
      cases zerosB l
      · exact Or.inl ⟨rfl, rfl⟩
      · exact Or.inr (Or.inl ⟨rfl, rfl⟩)
    · rw [if_neg hx0]
      by_cases hx1 : gt l 0 = 1
      · rw [if_pos hx1]
        have := parse_one (a := 0) (by omega) hx1
        rw [e0] at this
        exact Or.inr (Or.inr ⟨1, rfl, Nat.le_refl _, by omega, by omega, by rw [this, hx1]; simp⟩)
      · rw [if_neg hx1]
        by_cases h2 : l.length < 2 ∨ gt l 1 < 2 ∨ (l.length : Int) < gt l 1
        · rw [if_pos h2]
          left
          refine ⟨rfl, ?_⟩
          by_cases h3 : l.length < 2
          · have := parse_short (a := 0) (l := l) (by omega) (by omega) (by omega)
            rwa [e0] at this
          · have := parse_bad (a := 0) (l := l) (by omega) (by omega) (by rw [Nat.zero_add]; omega)
            rwa [e0] at this
        · rw [if_neg h2]
          have hy := hb.bd 1
          have := parse_opt (a := 0) (l := l) (n := (gt l 1).toNat) (by omega) (by omega) (by rw [Nat.zero_add]; omega) (by omega)
          rw [e0, Nat.zero_add, Nat.zero_add] at this
          exact Or.inr (Or.inr ⟨(gt l 1).toNat, by omega, by omega, by omega, by omega, this⟩)

def QRel (w0 : World) (l : List Int) (bv out : Value) (wr : World) : Prop :=
  ∃ (r : List Int) (hs : List HOpt), r.length + hs.length ≤ l.length ∧ Rb w0 bv r ∧ OwnO w0.heap.size wr out hs ∧ Below w0.heap.size w0 wr ∧ parseL l = (parseL r).map (hs.map HOpt.o ++ ·)
theorem QRel.none {w0 wr : World} {l r : List Int} {hs : List HOpt} (h : parseL l = (parseL r).map (hs.map HOpt.o ++ ·)) (h0 : parseL r = none) (hb : Below w0.heap.size w0 wr) :
    ParsePost l w0 (.returned (.tuple #[.slice none 0 0, .int .i64 40])) wr :=
  ⟨hb, fun _ => rfl, fun os ho => by rw [h, h0] at ho; cases ho⟩
theorem QRel.some {w0 wr : World} {l r : List Int} {hs : List HOpt} {v : Value} (h : parseL l = (parseL r).map (hs.map HOpt.o ++ ·)) (h0 : parseL r = some []) (hb : Below w0.heap.size w0 wr) (ho : OwnO w0.heap.size wr v hs) :
    ParsePost l w0 (.returned (.tuple #[v, .int .i64 0])) wr :=
  ⟨hb, (fun hn => by rw [h, h0] at hn; cases hn), fun os hos => ⟨v, hs, rfl, by rw [h, h0] at hos; simpa using hos, ho⟩⟩

set_option maxHeartbeats 6400000 in
set_option maxRecDepth 20000 in
theorem refParse_any (bv : Value) (l : List Int) (w : World) (h : Rb w bv l) (hl : l.length ≤ 1073741824) : Calls Tryd.prog 11 #[bv] w (ParsePost l w) := by
  obtain ⟨i0, hi, hz0, hz1, hz2⟩ := info_parts Tryd.info5
  obtain ⟨i2, hi2, hz20, hz21, hz22⟩ := info_parts info_opt
  have HB := hid h
  clear h
  go_enter Tryd.func11, Tryd.ntmps11
  go_wp2_with fail
  go_loopw [0, 4] (fun b out wr => QRel w l b out wr) (fun b _ _ => slen b)
  case atStart => exact ⟨l, [], by simp, HB.out, OwnO.nil _ _, Below.refl _ _, by simp⟩
  case round =>
    obtain ⟨r, hs, hrl, hRB, hO, hB, hP⟩ := hrel
    have O := hid hO
    have RB0 := hid hRB
    have RB := hid (hRB.below hB)
    have B := hid hB
    have P := hid hP
    clear hO hB hP hRB
    have hRB := RB.out
    obtain ⟨a, cap, rfl, hc, hm, hz⟩ := hRB.open
    unfold maxLen at hm
    have HZ := hid hz
    clear hz hRB
    have F := hid (first_any _ r wr RB.out)
    have hfc := hid (first_cases RB.out.byt)
    have hBs := B.out.size
    rcases hfc.out with ⟨hf, hp⟩ | ⟨hf, hp⟩ | ⟨n, hf, hn1, hnl, hn255, hp⟩
    · have N := hid (QRel.none (w0 := w) (wr := wr) P.out hp B.out)
      have E := F.out
      rw [hf] at E
      have E := hid E
      clear hp hf hfc F
      go_wp2_with fail
      refine E.out.mono ?_
      rintro en w' ⟨rfl, rfl⟩
      go_wp2_with fail
      go_ret2
      exact N.out
    · have N := hid (QRel.some (w0 := w) (wr := wr) P.out hp B.out O.out)
      have E := F.out
      rw [hf] at E
      have E := hid E
      clear hp hf hfc F
      go_wp2_with fail
      refine E.out.mono ?_
      rintro en w' ⟨rfl, rfl⟩
      go_wp2_with fail
      go_ret2
      exact N.out
    · have E := F.out
      rw [hf] at E
      have E := hid E
      have HP := hid hp
      clear hp hf hfc F
      obtain ⟨ρ, hR, hLr, hJ⟩ := O.out
      have R := hid hR
      clear hR hLr hJ
      rcases HZ.out with h0 | ⟨b, off, rfl, hcell⟩
      · omega
      have hck := hcell 0 (by omega)
      rw [Nat.add_zero] at hck
      have hx := RB.out.byt.bd 0
      generalize gt r 0 = x at *
      clear hcell
      have hslb : ∀ W, Sem.run Tryd.prog (Instr.slice 22 (.slice (some ⟨b, off, none⟩) r.length cap) (some (.int .i64 (n : Int))) none none) W = .ok (.slice (subA (some ⟨b, off, none⟩) n cap) (r.length - n) (cap - n)) W := fun W =>
        run_slice_l_sub (P := Tryd.prog) 22 5 Tryd.underlying22 hi hz1 (some ⟨b, off, none⟩) r.length cap .i64 (n : Int) n rfl (by omega) W
      have rbn := hid (RB0.out.back n hnl)
      by_cases hn2 : n ≤ 2
      · have hd : decide (2 < (n : Int)) = false := by simp; omega
        have DE := hid (show (r.drop 2).take (n - 2) = [] by rw [show n - 2 = 0 by omega]; rfl)
        go_wp2_with fail
        refine E.out.mono ?_
        rintro en w' ⟨rfl, rfl⟩
        go_wp2_with (at_builtin; refine wpList_append_kept rfl _ _ 23 rfl w.heap.size 38 i2 _ 2 32 Tryd.underlying23 hi2 hz20 hz21 hz22 rfl (by decide) u4 hs.length _ rfl ((R.out.alloc _).alloc _) ⟨wr.heap.size + 1, 0, none⟩ 1 1 (by decide) [.int .i64 x, .slice none 0 0] rfl rfl (new_cells (by have := heap_alloc_new (wr.alloc (.cells #[.int .i64 x, .slice none 0 0] 38)) (.cells #[.int .i64 x, .slice none 0 0] 38); simpa using this)) (by simp [Value.oneCell']) (by unfold maxLen; omega) (by omega) (by simp; omega) ?_; intro g5 c5 w5 ho hat)
        have S := hid (OwnO.push O.out (bel_alloc wr _) hBs (World.ownsRow_nil _ _ _ _) Byt.nil hx ho hat)
        have BB := hid ((B.out.trans ((bel_alloc wr (.cells #[.int .i64 x, .slice none 0 0] 38)).mono hBs)).trans S.out.2)
        clear ho hat
        go_roundw
        case rel => exact ⟨r.drop n, _, by simp; omega, rbn.out, S.out.1, BB.out, by rw [P.out, HP.out, DE.out]; cases parseL (r.drop n) <;> simp [HOpt.o]⟩
        case measure => simp [slen_mk]; omega
      · have hd : decide (2 < (n : Int)) = true := by simp; omega
        have hsl2 : ∀ W, Sem.run Tryd.prog (Instr.slice 22 (.slice (some ⟨b, off, none⟩) r.length cap) (some (.int .i64 2)) (some (.int .i64 (n : Int))) none) W = .ok (.slice (subA (some ⟨b, off, none⟩) 2 cap) (n - 2) (cap - 2)) W := fun W =>
          run_slice_lh_sub (P := Tryd.prog) 22 5 Tryd.underlying22 hi hz1 (some ⟨b, off, none⟩) r.length cap .i64 .i64 2 (n : Int) 2 n rfl rfl (by omega) (by omega) W
        have rb2 := hid (RB.out.sub 2 n (by omega) hnl)
        obtain ⟨d, hd⟩ : ∃ d, d = (r.drop 2).take (n - 2) := ⟨_, rfl⟩
        have hdb : Byt d := by rw [hd]; exact (RB.out.byt.drop _).take _
        have hdl : d.length ≤ 255 := by rw [hd]; simp; omega
        have DB := hid hdb
        have DE := hid hd.symm
        rw [← hd] at rb2
        clear hd hdb
        go_wp2_with fail
        refine E.out.mono ?_
        rintro en w' ⟨rfl, rfl⟩
        go_wp2_with fail
        go_region_law ((refine step_append_bytes rfl _ _ 22 rfl (wr.heap.size + 1) 5 i0 _ Tryd.underlying22 hi hz0 hz1 hz2 rfl (.slice none 0 0) 0 [] rfl (World.ownsRow_nil _ _ _ _) _ d rfl ((rb2.out.below (bel_alloc wr (.cells #[.int .i64 x, .slice none 0 0] 38))).same (Same.drew _)) (by omega) (by simp) ?_; intro a2 c2 w2 ho hg hat; have e2 := (hg.block wr.heap.size (by simp) (by simp [Value.ownBlock])).trans (heap_alloc_new wr (.cells #[.int .i64 x, .slice none 0 0] 38)); obtain ⟨f0, f1, f2, f3⟩ := cells2 e2))
        rw [Nat.zero_add] at ho
        have ho : w2.ownsRow (wr.heap.size + 1) 5 1 (.slice a2 d.length c2) d.length (bts d) := ho
        obtain ⟨w3, hw3⟩ : ∃ w3, w3 = w2.setCell ⟨wr.heap.size, 1, none⟩ (.slice a2 d.length c2) := ⟨_, rfl⟩
        rw [← hw3]
        have e3 := heap_store (o := 1) e2 (.slice a2 d.length c2)
        rw [← hw3] at e3
        obtain ⟨p0, p1, _, _⟩ := cells2 e3
        have B3 : Hid (Below wr.heap.size wr w3) := hid (by
          rw [hw3]
          exact (((Below.refl _ _).alloc (Nat.le_refl _) _).drew.grown hg (by simp) (fun k hk => by simp [Value.ownBlock] at hk)).setCell (by simp) _)
        have O3 : Hid (w3.ownsRow wr.heap.size 5 1 (.slice a2 d.length c2) d.length (bts d)) := hid (own_base (own_move ho fun g hg' _ => by
          rw [hw3]
          exact Below.heap_setCell _ _ _ _ (fun e => by have := (ho.lt g hg').1; simp only at e; omega)) (by omega))
        have R3 := hid (own_below R.out B3.out)
        have hs3 := B3.out.size
        clear ho hg hat e2 f0 f1 f2 f3 hw3 e3
        go_wp2_with (at_builtin; refine wpList_append_kept rfl _ _ 23 rfl w.heap.size 38 i2 _ 2 32 Tryd.underlying23 hi2 hz20 hz21 hz22 rfl (by decide) u4 hs.length _ rfl (R3.out.alloc _) ⟨w3.heap.size, 0, none⟩ 1 1 (by decide) [.int .i64 x, .slice a2 d.length c2] rfl rfl (new_cells (heap_alloc_new w3 _)) (by simp [Value.oneCell']) (by unfold maxLen; omega) (by omega) (by simp; omega) ?_; intro g5 c5 w5 ho hat)
        have S := hid (OwnO.push O.out B3.out hBs O3.out DB.out hx ho hat)
        have BB := hid ((B.out.trans (B3.out.mono hBs)).trans S.out.2)
        clear ho hat
        go_roundw
        case rel => exact ⟨r.drop n, _, by simp; omega, rbn.out, S.out.1, BB.out, by rw [P.out, HP.out, DE.out]; cases parseL (r.drop n) <;> simp [HOpt.o]⟩
        case measure => simp [slen_mk]; omega

end Go.Proofs.YtebfbpfikbjjlaaDoor
