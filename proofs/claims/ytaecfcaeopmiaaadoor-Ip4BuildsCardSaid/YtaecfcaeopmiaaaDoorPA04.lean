/-
  Parse, the program's and the document's: both tell the options that the bytes are, in memory of their own.
-/
import Derived.Test.YtaecfcaeopmiaaaDoorC04
import Derived.WalkMore
import Derived.Test.YtaecfcaeopmiaaaDoorDrw
namespace Go.Proofs.YtaecfcaeopmiaaaDoor
open Go.RowKit

/-- v is a row of options of the call's own; each option's bytes lie in a row of their own -/
def OwnO (base : Nat) (w : World) (v : Value) (hs : List HOpt) : Prop :=
  ∃ ρ : Nat → Nat, w.ownsRow base 102 2 v hs.length (ocells hs) ∧ Lab ρ 0 v ∧
    ∀ j h, hs[j]? = some h → w.ownsRow base 5 1 h.v h.l.length (bts h.l) ∧ Byt h.l ∧ Lab ρ (j + 1) h.v ∧ 0 ≤ h.k ∧ h.k ≤ 255
theorem OwnO.nil (base : Nat) (w : World) : OwnO base w (.slice none 0 0) [] := ⟨fun _ => 0, World.ownsRow_nil _ _ _ _, Lab.nil _ _, fun j h e => by simp at e⟩
theorem OwnO.below {base : Nat} {w w' : World} {v : Value} {hs : List HOpt} (h : OwnO base w v hs) (hb : Below w.heap.size w w') : OwnO base w' v hs := by
  obtain ⟨ρ, h1, h2, h3⟩ := h
  exact ⟨ρ, own_below h1 hb, h2, fun j x hx => ⟨own_below (h3 j x hx).1 hb, (h3 j x hx).2⟩⟩
theorem OwnO.ropt {base : Nat} {w : World} {v : Value} {hs : List HOpt} (h : OwnO base w v hs) : Ropt w v hs := by
  obtain ⟨ρ, h1, h2, h3⟩ := h
  refine Ropt.of_own h1 fun x hx => ?_
  obtain ⟨j, hj⟩ := List.mem_iff_getElem?.1 hx
  obtain ⟨a, b, c, d, e⟩ := h3 j x hj
  exact ⟨Rb.of_own b a, by simp [Lit.wf, IntKind.min, IntKind.max, IntKind.signed, IntKind.bits]; omega⟩
theorem OwnO.push {base g c : Nat} {w1 w w' : World} {o : Obj} {v d : Value} {hs : List HOpt} {k : Int} {l : List Int}
    (h : OwnO base w1 v hs) (hb : Below w1.heap.size w1 w) (hbase : base ≤ w1.heap.size) (hd : w.ownsRow w1.heap.size 5 1 d l.length (bts l)) (hl : Byt l) (hk : 0 ≤ k ∧ k ≤ 255)
    (ho : w'.ownsRow base 102 2 (.slice (some ⟨g, 0, none⟩) (hs.length + 1) c) (hs.length + 1) (ocells hs ++ [.int .i64 k, d]))
    (hat : (v.ownBlock = some g ∧ (w.alloc o).grownBy w' (some g)) ∨ (g = (w.alloc o).heap.size ∧ Below (w.alloc o).heap.size (w.alloc o) w')) :
    OwnO base w' (.slice (some ⟨g, 0, none⟩) (hs.length + 1) c) (hs ++ [⟨k, d, l⟩]) ∧ Below base w w' := by
  obtain ⟨ρ, h1, h2, h3⟩ := h
  have hl2 : Lab (ext ρ w1.heap.size (hs.length + 1)) 0 v := fun b hb' => by rw [ext_old (h1.lt b hb').2]; exact h2 b hb'
  have hf := fro_kept hl2 hat
  have hsz := hb.size
  refine ⟨⟨ext (ext ρ w1.heap.size (hs.length + 1)) w.heap.size 0, ?_, kept_lab hl2 (fun b hb' => Nat.lt_of_lt_of_le (h1.lt b hb').2 hsz) hat, fun j x hx => ?_⟩, ?_⟩
  · simpa [ocells_append, ocells] using ho
  · by_cases hj : j < hs.length
    · rw [List.getElem?_append_left hj] at hx
      obtain ⟨a, b, cc, e⟩ := h3 j x hx
      have a' := own_below a hb
      refine ⟨own_move a' fun b' hb' hlt => hf.block b' hlt (by rw [ext_old (a.lt b' hb').2, cc b' hb']; omega), b, fun b' hb' => ?_, e⟩
      rw [ext_old (a'.lt b' hb').2, ext_old (a.lt b' hb').2]; exact cc b' hb'
    · have hj2 : j < (hs ++ [(⟨k, d, l⟩ : HOpt)]).length := (List.getElem?_eq_some_iff.1 hx).1
      have hj3 : j = hs.length := by simp at hj2; omega
      subst hj3
      simp at hx
      subst hx
      have key : ∀ b', d.ownBlock = some b' → ext ρ w1.heap.size (hs.length + 1) b' = hs.length + 1 ∧ b' < w.heap.size := fun b' hb' => ⟨ext_new (hd.lt b' hb').1, (hd.lt b' hb').2⟩
      exact ⟨own_base (own_move hd fun b' hb' hlt => hf.block b' hlt (by rw [(key b' hb').1]; omega)) hbase, hl, fun b' hb' => by rw [ext_old (key b' hb').2]; exact (key b' hb').1, hk⟩
  · have hw : ∀ b, b < w.heap.size → (w.alloc o).heap[b]? = w.heap[b]? := fun b hb => (bel_alloc w o).block b hb
    have hs' : (w.alloc o).heap.size = w.heap.size + 1 := by simp
    refine ⟨hf.os, hf.tape, hf.output, hf.size, fun b hb' => ?_⟩
    rcases hat with ⟨e, hg⟩ | ⟨_, hg⟩
    · have := (h1.lt g e).1
      rw [hg.block b (by omega) (fun e' => by have := Option.some.inj e'; omega), hw b (by omega)]
    · rw [hg.block b (by omega), hw b (by omega)]

def ParsePost (l : List Int) (w : World) (en : Ending) (w' : World) : Prop :=
  Below w.heap.size w w' ∧ (parseL l = none → en = .returned (.tuple #[.slice none 0 0, .int .i64 40])) ∧
    ∀ os, parseL l = some os → ∃ v hs, en = .returned (.tuple #[v, .int .i64 0]) ∧ hs.map HOpt.o = os ∧ OwnO w.heap.size w' v hs
def PRel (w0 : World) (l : List Int) (out t : Value) (wr : World) : Prop :=
  ∃ (k : Nat) (hs : List HOpt), k ≤ l.length ∧ t = .int .i64 k ∧ hs.length ≤ k ∧ OwnO w0.heap.size wr out hs ∧ Below w0.heap.size w0 wr ∧ parseL l = (parseL (l.drop k)).map (hs.map HOpt.o ++ ·)
theorem PRel.none {w0 wr : World} {l : List Int} {k : Nat} {hs : List HOpt} (h : parseL l = (parseL (l.drop k)).map (hs.map HOpt.o ++ ·)) (h0 : parseL (l.drop k) = none) (hb : Below w0.heap.size w0 wr) :
    ParsePost l w0 (.returned (.tuple #[.slice none 0 0, .int .i64 40])) wr :=
  ⟨hb, fun _ => rfl, fun os ho => by rw [h, h0] at ho; cases ho⟩
theorem PRel.some {w0 wr : World} {l : List Int} {k : Nat} {hs : List HOpt} {v : Value} (h : parseL l = (parseL (l.drop k)).map (hs.map HOpt.o ++ ·)) (h0 : parseL (l.drop k) = some []) (hb : Below w0.heap.size w0 wr) (ho : OwnO w0.heap.size wr v hs) :
    ParsePost l w0 (.returned (.tuple #[v, .int .i64 0])) wr :=
  ⟨hb, (fun hn => by rw [h, h0] at hn; cases hn), fun os hos => ⟨v, hs, rfl, by rw [h, h0] at hos; simpa using hos, ho⟩⟩

set_option maxHeartbeats 6400000 in
set_option maxRecDepth 20000 in
theorem parse_any (bv : Value) (l : List Int) (w : World) (h : Rb w bv l) (hT : Tab w) (hl : l.length ≤ 1073741824) : Calls Tryd.prog 59 #[bv] w (ParsePost l w) := by
  obtain ⟨i0, hi, hz0, hz1, hz2⟩ := info_parts Tryd.info5
  obtain ⟨i2, hi2, hz20, hz21, hz22⟩ := info_parts info_opt
  have HB := hid h
  have HT := hid hT
  obtain ⟨a, cap, rfl, hc, hm, hz⟩ := h.open
  unfold maxLen at hm
  have HZ := hid hz
  clear h hz hT
  go_enter Tryd.func59, Tryd.ntmps59
  go_wp2_with fail
  go_step3
  go_wp2_with fail
  go_step3
  go_wp2_with fail
  go_loopw [4, 5] (fun out t wr => PRel w l out t wr) (fun _ t _ => l.length - (intOf t).toNat)
  case atStart => exact ⟨0, [], Nat.zero_le _, rfl, Nat.le_refl _, OwnO.nil _ _, Below.refl _ _, by simp⟩
  case round =>
    obtain ⟨k, hs, hk, rfl, hhs, hO, hB, hP⟩ := hrel
    have O := hid hO
    have B := hid hB
    have P := hid hP
    clear hO hB hP
    have HBw := hid (HB.out.below B.out)
    have HTw := hid (HT.out.below B.out)
    by_cases hlt : k < l.length
    · rcases HZ.out with h0 | ⟨b, off, rfl, hcell⟩
      · omega
      have hck := (B.out.cell (p := ⟨b, off + k, none⟩) (World.block_lt_of_cell? _ _ (hcell k hlt))).trans (hcell k hlt)
      have hx := HB.out.byt.bd k
      by_cases hx0 : gt l k = 0
      · have hpz := hid (parse_zero hlt hx0)
        rw [hx0] at hck
        have hsl := fun W => run_slice_l_sub (P := Tryd.prog) 22 5 Tryd.underlying22 hi hz1 (some ⟨b, off, none⟩) l.length cap .i64 (k : Int) k rfl (by omega) W
        have rb := hid (HBw.out.back k (by omega))
        clear hcell hx hx0
        have E := empty_any _ _ wr rb.out
        generalize zerosB (l.drop k) = zb at *
        have E := hid E
        cases zb
        · have N := hid (PRel.none (w0 := w) (wr := wr) P.out hpz.out B.out)
          clear hpz
          go_wp2_with fail
          refine (shape_0 _ HTw.out).mono ?_
          rintro en w' ⟨rfl, rfl⟩
          go_wp2_with fail
          refine E.out.mono ?_
          rintro en w' ⟨rfl, rfl⟩
          go_wp2_with fail
          rw [Exit.noGoto_ret]
          go_ret2
          exact N.out
        · have N := hid (PRel.some (w0 := w) (wr := wr) P.out hpz.out B.out O.out)
          clear hpz
          go_wp2_with fail
          refine (shape_0 _ HTw.out).mono ?_
          rintro en w' ⟨rfl, rfl⟩
          go_wp2_with fail
          refine E.out.mono ?_
          rintro en w' ⟨rfl, rfl⟩
          go_wp2_with fail
          rw [Exit.noGoto_ret]
          go_ret2
          exact N.out
      · obtain ⟨ρ, hR, hLr, hJ⟩ := O.out
        have R := hid hR
        have hBs := B.out.size
        clear hR hLr hJ
        by_cases hx1 : gt l k = 1
        · have hp1 := hid (parse_one hlt hx1)
          rw [hx1] at hck
          clear hcell hx hx0 hx1
          go_wp2_with fail
          refine (shape_1 _ HTw.out).mono ?_
          rintro en w' ⟨rfl, rfl⟩
          go_wp2_with (at_builtin; refine wpList_append_kept rfl _ _ 85 rfl w.heap.size 102 i2 _ 2 32 Tryd.underlying85 hi2 hz20 hz21 hz22 rfl (by decide) u4 hs.length _ rfl (R.out.alloc _) ⟨wr.heap.size, 0, none⟩ 1 1 (by decide) [.int .i64 1, .slice none 0 0] rfl rfl (new_cells (heap_alloc_new wr _)) (by simp [Value.oneCell']) (by unfold maxLen; omega) (by omega) (by simp; omega) ?_; intro g5 c5 w5 ho hat)
          have S := hid (OwnO.push O.out (Below.refl _ _) hBs (World.ownsRow_nil _ _ _ _) Byt.nil (by decide) ho hat)
          clear ho hat
          go_roundw
          case rel => exact ⟨k + 1, _, by omega, by go_num, by simp; omega, S.out.1, B.out.trans S.out.2, by rw [P.out, hp1.out]; cases parseL (l.drop (k + 1)) <;> simp [HOpt.o]⟩
          case measure => simp [intOf]; omega
        · have hx2 : 2 ≤ gt l k := by omega
          have hkk : (k : Int) + 1 ≤ 1073741825 := by omega
          by_cases hsh : l.length ≤ k + 1
          · have N := hid (PRel.none (w0 := w) (wr := wr) P.out (parse_short hlt hx2 hsh) B.out)
            have hd1 : decide ((l.length : Int) ≤ (k : Int) + 1) = true := by simp; omega
            generalize gt l k = x at *
            clear hcell
            go_wp2_with fail
            refine (shape_2 _ _ hx2).mono ?_
            rintro en w' ⟨rfl, rfl⟩
            go_wp2_with fail
            rw [Exit.noGoto_ret]
            go_ret2
            exact N.out
          · have hlt1 : k + 1 < l.length := by omega
            have hck1 := (B.out.cell (p := ⟨b, off + (k + 1), none⟩) (World.block_lt_of_cell? _ _ (hcell (k + 1) hlt1))).trans (hcell (k + 1) hlt1)
            have hy := HB.out.byt.bd (k + 1)
            have hd1 : decide ((l.length : Int) ≤ (k : Int) + 1) = false := by simp; omega
            have hpb := hid (fun h => parse_bad hlt1 hx2 h)
            have hpo := hid (fun n h hn h2 => parse_opt (n := n) (a := k) (l := l) h hx2 hn h2)
            have hxb := hid (HB.out.byt)
            generalize gt l (k + 1) = y at *
            generalize gt l k = x at *
            clear hcell
            by_cases hbad : y < 2 ∨ (l.length : Int) - k < y
            · have N := hid (PRel.none (w0 := w) (wr := wr) P.out (hpb.out hbad) B.out)
              rcases (show y < 2 ∨ (2 ≤ y ∧ (l.length : Int) - k < y) by omega) with hy2 | ⟨hy2, hy3⟩
              · have hd2 : decide (y < 2) = true := by simp; omega
                clear hbad
                go_wp2_with fail
                refine (shape_2 _ _ hx2).mono ?_
                rintro en w' ⟨rfl, rfl⟩
                go_wp2_with fail
                rw [Exit.noGoto_ret]
                go_ret2
                exact N.out
              · have hd2 : decide (y < 2) = false := by simp; omega
                have hd3 : decide ((l.length : Int) - k < y) = true := by simp; omega
                clear hbad
                go_wp2_with fail
                refine (shape_2 _ _ hx2).mono ?_
                rintro en w' ⟨rfl, rfl⟩
                go_wp2_with fail
                rw [Exit.noGoto_ret]
                go_ret2
                exact N.out
            · obtain ⟨n, hn⟩ : ∃ n : Nat, y = n := ⟨y.toNat, by omega⟩
              subst hn
              have hkn : k + n ≤ l.length := by omega
              have hn2 : 2 ≤ n := by omega
              have hpp := hid (hpo.out n (by omega) rfl (by omega))
              have hd2 : decide ((n : Int) < 2) = false := by simp; omega
              have hd3 : decide ((l.length : Int) - k < (n : Int)) = false := by simp; omega
              have hsl : ∀ W, Sem.run Tryd.prog (Instr.slice 22 (.slice (some ⟨b, off, none⟩) l.length cap) (some (.int .i64 ((k : Int) + 2))) (some (.int .i64 ((k : Int) + n))) none) W = .ok (.slice (subA (some ⟨b, off, none⟩) (k + 2) cap) (k + n - (k + 2)) (cap - (k + 2))) W := fun W =>
                run_slice_lh_sub (P := Tryd.prog) 22 5 Tryd.underlying22 hi hz1 (some ⟨b, off, none⟩) l.length cap .i64 .i64 _ _ (k + 2) (k + n) (by omega) (by omega) (by omega) (by omega) W
              have rb := hid (HBw.out.sub (k + 2) (k + n) (by omega) (by omega))
              obtain ⟨d, hd⟩ : ∃ d, d = (l.drop (k + 2)).take (k + n - (k + 2)) := ⟨_, rfl⟩
              have hdb : Byt d := by rw [hd]; exact (hxb.out.drop _).take _
              have hdl : d.length ≤ 1073741824 := by rw [hd]; simp; omega
              have DB := hid hdb
              have DE := hid (show (l.drop (k + 2)).take (n - 2) = d by rw [hd]; congr 1; omega)
              rw [← hd] at rb
              clear hd hdb hbad hpb hpo
              go_wp2_with fail
              refine (shape_2 _ _ hx2).mono ?_
              rintro en w' ⟨rfl, rfl⟩
              go_wp2_with fail
              refine (cloneO_any _ d _ rb.out hdl).mono ?_
              rintro en w1 ⟨dv, rfl, ho1, hb1⟩
              obtain ⟨da, dc, rfl, _⟩ := own_shape ho1
              have HO1 := hid ho1
              have HB1 := hid hb1
              have hb1s := hb1.size
              have R1 := hid (own_below R.out hb1)
              clear ho1 hb1
              go_wp2_with (at_builtin; refine wpList_append_kept rfl _ _ 85 rfl w.heap.size 102 i2 _ 2 32 Tryd.underlying85 hi2 hz20 hz21 hz22 rfl (by decide) u4 hs.length _ rfl (R1.out.alloc _) ⟨w1.heap.size, 0, none⟩ 1 1 (by decide) [.int .i64 x, .slice da d.length dc] rfl rfl (new_cells (heap_alloc_new w1 _)) (by simp [Value.oneCell']) (by unfold maxLen; omega) (by omega) (by simp; omega) ?_; intro g5 c5 w5 ho hat)
              have S := hid (OwnO.push O.out HB1.out hBs HO1.out DB.out hx ho hat)
              clear ho hat
              go_roundw
              case rel => exact ⟨k + n, _, by omega, by go_num, by simp; omega, S.out.1, (B.out.trans (HB1.out.mono hBs)).trans S.out.2, by rw [P.out, hpp.out, DE.out]; cases parseL (l.drop (k + n)) <;> simp [HOpt.o]⟩
              case measure => simp [intOf]; omega
    · have hkl : k = l.length := by omega
      subst hkl
      go_wp2_with fail
      rw [Exit.noGoto_ret]
      go_ret2
      exact PRel.some P.out (parse_end l) B.out O.out

end Go.Proofs.YtaecfcaeopmiaaaDoor
