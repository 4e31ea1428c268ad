/-
  The contracts about one right packet of version 4, in one structure.
-/
import Derived.Test.YtaecfcaeopmiaaaDoorSameQ
import Derived.Test.YtaecfcaeopmiaaaDoorIp4D
import Derived.Test.YtaecfcaeopmiaaaDoorSpR
import Derived.Lib.SlBytesConst
namespace Go.Proofs.YtaecfcaeopmiaaaDoor
open Go.RowKit

/-- bytes of a constant text, in block b -/
def cstZ (b n c : Nat) (xs : List Int) : Res := .zone b (b + 1) fun W => Rb W (.slice (some ⟨b, 0, none⟩) n c) xs
theorem Sp.cst {w0 w : World} {L : List Res} (S : Sp w0 w L) (i : Nat) {b n c : Nat} {xs : List Int} (h : L[i]? = some (cstZ b n c xs)) : Rb w (.slice (some ⟨b, 0, none⟩) n c) xs := (S.all _ (List.mem_of_getElem? h)).2.1
theorem bel_alloc' (w : World) (o : Obj) : Below w.heap.size w (w.alloc o) := bel_alloc w o
theorem Sp.newCst {w0 w w2 : World} {L : List Res} {C : Array Value} {fr : Nat × Nat} {n : Nat} {xs : List Int} (S : Sp w0 w L) (hw : w2 = w.alloc (.cells C 5 fr)) (hC : C.toList = bts xs) (hb : Byt xs) (hn : n = xs.length) (hm : n ≤ 1000) : Sp w0 w2 (cstZ w.heap.size n n xs :: L) := by
  subst hw hn
  have hcell : ∀ j, j < xs.length → (w.alloc (.cells C 5 fr)).cell? ⟨w.heap.size, 0 + j, none⟩ = some (.int .u8 (gt xs j)) := fun j hj => by
    have h1 : (w.alloc (.cells C 5 fr)).heap[w.heap.size]? = some (.cells C 5 fr) := heap_alloc_new w _
    simp only [World.cell?, h1, Nat.zero_add]
    rw [← Array.getElem?_toList, hC]
    exact bts_some hj
  have hR : Rb (w.alloc (.cells C 5 fr)) (.slice (some ⟨w.heap.size, 0, none⟩) xs.length xs.length) xs :=
    ⟨hb, _, _, rfl, Nat.le_refl _, by unfold maxLen; omega, fun h => (by cases h), fun j hj => ⟨_, _, rfl, hcell j hj⟩⟩
  have M : Sp w (w.alloc (.cells C 5 fr)) [cstZ w.heap.size xs.length xs.length xs] :=
    ⟨bel_alloc' w _, fun r hr => by
      rw [List.mem_singleton.1 hr]
      refine ⟨⟨Nat.le_refl _, by rw [alloc_size]; exact Nat.le_refl _⟩, hR, fun w1 w2 hbl hz h => rb_move h fun _ b hb => ?_⟩
      simp only [Value.ownBlock, Option.some.injEq] at hb
      subst hb
      exact hbl _ (Nat.le_refl _) (Nat.lt_succ_self _), List.pairwise_singleton _ _⟩
  exact S.call M
theorem wpList_convconst {w0 w : World} {ops : Array Oper} {rest : List Oper} {o : Oper} {a : Act} {Q : Exit → Act → World → Prop} {L : List Res} {C : Array Value} (hgd : o.guard = none) (x : Operand) (ho : o.op = .convert 22 22 x) (S : Sp w0 w L) (n : Nat) (hx : a.eval x = .slice (some ⟨w.heap.size, 0, none⟩) n n)
    (xs : List Int) (hC : C.toList = bts xs) (hb : Byt xs) (hn : n = xs.length) (hm : n ≤ 1000) (h : ∀ w2, Sp w0 w2 (cstZ w.heap.size n n xs :: L) → wpList Tryd.prog ops Q rest (a.put o.dst (.slice (some ⟨w.heap.size, 0, none⟩) n n)) w2) :
    wpList Tryd.prog ops Q (o :: rest) a (w.alloc (.cells C 5)) := by
  refine wpList_step fun K hK => ?_
  rw [if_pos (by simp [Region.wanted, hgd])]
  have hrun := Go.Lib.run_convert_bytes_const (P := Tryd.prog) w 22 5 C n n Tryd.underlying22 Tryd.underlying5
  unfold Oper.wp execOp
  simp only [ho, hx, Sem.run_bind, hrun, Result.andThen_ok, Sem.run_pure]
  exact hK _ _ (h _ (S.newCst rfl hC hb hn hm))
def PRt4 (q : Pk) (os xs : List Int) (no nx : Nat) (w : World) (en : Ending) (w' : World) : Prop :=
  ∃ so co sx cx, en = .returned (.tuple #[.agg (pkC (pkO q (.slice so no co) (.slice sx nx cx))), .int .i64 0]) ∧ Sp w w' [.row (.slice sx nx cx) 5 1 nx (bts xs), .row (.slice so no co) 5 1 no (bts os)]
structure RC4 (q : Pk) (os xs bl : List Int) (no nx nb : Nat) : Prop where
  own : ∀ W o x, Pin W (pkO q o x) os xs → Calls Tryd.prog 26 #[.agg (pkC (pkO q o x))] W (OwnQ q os xs no nx W)
  bld : ∀ W o x, Pin W (pkO q o x) os xs → Tab W → Calls Tryd.prog 18 #[.agg (pkC (pkO q o x))] W (BB 0 nb bl W)
  par : ∀ W v, Rb W v bl → Tab W → Calls Tryd.prog 13 #[v] W (PRt4 q os xs no nx W)
  same : ∀ W o x o' x', Pin W (pkO q o x) os xs → Pin W (pkO q o' x') os xs → Calls Tryd.prog 15 #[.agg (pkC (pkO q o x)), .agg (pkC (pkO q o' x'))] W (APost W (.bool true))
  rgt : ∀ W o x, Pin W (pkO q o x) os xs → Tab W → Calls Tryd.prog 20 #[.agg (pkC (pkO q o x))] W (APost W (.bool true))
  hd : ∀ W o x, Pin W (pkO q o x) os xs → Tab W → Calls Tryd.prog 22 #[.agg (pkC (pkO q o x))] W (APost W (.int .i64 ((20 + no : Nat) : Int)))
  pin : ∀ W o x, o.oneCell' = true → x.oneCell' = true → Rb W o os → Rb W x xs → Pin W (pkO q o x) os xs
  yo : Byt os
  yx : Byt xs
  yb : Byt bl
  lo : os.length = no
  ln : xs.length = nx
  lb : bl.length = nb
  sum : nb = 20 + no + nx
  small : nb ≤ 65535 ∧ no ≤ 40
  l1 : q.sB.length = 16
  l2 : q.dB.length = 16
theorem sameK_self (p : Pk) (o x o' x' : Value) (os xs : List Int) : sameK (pkO p o x) (pkO p o' x') os os xs xs = true := by simp [sameK, pkO]
theorem pkO_is {q : Pk} (h : IsPk q) {o x : Value} (ho : o.oneCell' = true) (hx : x.oneCell' = true) : IsPk (pkO q o x) := ⟨h.src, h.dst, h.id0, h.id1, ho, hx⟩
theorem rc4_of {q : Pk} {os xs : List Int} (hq : IsPk q) (yo : Byt os) (yx : Byt xs) (hr : right4 q os xs.length = true) : RC4 q os xs (b4L q os xs) os.length xs.length (b4L q os xs).length := by
  obtain ⟨e1, e2, e3, e4, e5⟩ := back4 hq yo yx hr
  have hp := right4_parts hr
  have hv := validB_len hp.2.2.2.2.2.1
  have hsm := hp.2.2.2.2.2.2
  have hl := b4L_len (p := q) (os := os) (xs := xs) hq.src.len hq.dst.len
  have hR : ∀ o x, right4 (pkO q o x) os xs.length = true := fun o x => hr
  have hB : ∀ o x, b4L (pkO q o x) os xs = b4L q os xs := fun o x => rfl
  refine ⟨fun W o x h => ownP_any (pkO q o x) os xs W h (by omega), fun W o x h hT => ?_, fun W v h hT => ?_, fun W o x o' x' h h' => ?_, fun W o x h hT => ?_, fun W o x h hT => ?_, fun W o x ho hx h1 h2 => ⟨pkO_is hq ho hx, h1, h2⟩, yo, yx, b4L_byt hq yo yx hr, rfl, rfl, rfl, hl, by omega, hq.src.len, hq.dst.len⟩
  · have := build4_yes (pkO q o x) os xs W h hT (hR o x)
    exact this.mono fun _ _ h => h.bb (by rw [hB])
  · refine (parse4_any v _ W h hT (by omega)).mono fun en w' ⟨_, h2⟩ => ?_
    obtain ⟨so, co, sx, cx, he, hS⟩ := h2 e1
    rw [e2, e3, e4, e5, hl, show 20 + os.length - 20 = os.length by omega, show 20 + os.length + xs.length - (20 + os.length) = xs.length by omega] at *
    exact ⟨so, co, sx, cx, he, hS⟩
  · refine (sameP_any _ _ os os xs xs W h.pk h'.pk h.oR h'.oR h.xR h'.xR).mono fun en w' hh => ?_
    rwa [sameK_self] at hh
  · have := right4_any (pkO q o x) os xs W h hT (by omega)
    rwa [hR] at this
  · have := Head4_any (pkO q o x) os xs W h hT (by omega)
    rwa [hR, if_pos rfl] at this
/-- the packet of the chapter's first example -/
def exK : Pk := { pk0 with V := 4, sV := 4, sB := [10, 0, 0, 1, 0, 0, 0, 0, 0, 0, 0, 0, 0, 0, 0, 0], dV := 4, dB := [10, 0, 0, 2, 0, 0, 0, 0, 0, 0, 0, 0, 0, 0, 0, 0], Proto := 17, TTL := 64, ID := 7 }
def exX : List Int := [97, 98, 99]
def exB : List Int := [69, 0, 0, 23, 0, 7, 0, 0, 64, 17, 102, 205, 10, 0, 0, 1, 10, 0, 0, 2, 97, 98, 99]
theorem exK_is (o x : Value) (ho : o.oneCell' = true) (hx : x.oneCell' = true) : IsPk (pkO exK o x) :=
  ⟨⟨rfl, by intro y hy; simp [pkO, exK] at hy; omega, (show (-9223372036854775808 : Int) ≤ 4 by decide), (show (4 : Int) ≤ 9223372036854775807 by decide)⟩, ⟨rfl, by intro y hy; simp [pkO, exK] at hy; omega, (show (-9223372036854775808 : Int) ≤ 4 by decide), (show (4 : Int) ≤ 9223372036854775807 by decide)⟩, (show (0 : Int) ≤ 7 by decide), (show (7 : Int) ≤ 4294967295 by decide), ho, hx⟩
theorem exX_byt : Byt exX := by intro y hy; simp [exX] at hy; omega
theorem exB_byt : Byt exB := by intro y hy; simp [exB] at hy; omega
theorem validB_nil : validB [] = true := by unfold validB; rw [parse_nil]; rfl
theorem ex_right (o x : Value) : right4 (pkO exK o x) [] exX.length = true := by
  unfold right4
  rw [validB_nil]
  rfl
theorem ex_bytes (o x : Value) : b4L (pkO exK o x) [] exX = exB := by rfl
def FirstPost (w : World) (en : Ending) (w' : World) : Prop :=
  ∃ b sb cb, en = .returned (.tuple #[.agg (pkC (pkO exK (.slice none 0 0) (.slice (some ⟨b, 0, none⟩) 3 3))), .slice sb 23 cb]) ∧ Sp w w' [.row (.slice sb 23 cb) 5 1 23 (bts exB), cstZ b 3 3 exX]
set_option maxHeartbeats 1000000 in
set_option maxRecDepth 20000 in
theorem first5_any (w : World) : Calls Tryd.prog 30 #[] w (FirstPost w) := by
  have S : Hid (Sp w (w.alloc (.cells #[.int .i64 0, .int .i64 0, .int .i64 0, .int .i64 0, .int .u8 0, .int .u8 0, .int .u8 0, .int .u8 0, .int .u8 0, .int .u8 0, .int .u8 0, .int .u8 0, .int .u8 0, .int .u8 0, .int .u8 0, .int .u8 0, .int .u8 0, .int .u8 0, .int .u8 0, .int .u8 0, .int .i64 0, .int .u8 0, .int .u8 0, .int .u8 0, .int .u8 0, .int .u8 0, .int .u8 0, .int .u8 0, .int .u8 0, .int .u8 0, .int .u8 0, .int .u8 0, .int .u8 0, .int .u8 0, .int .u8 0, .int .u8 0, .int .u8 0, .int .i64 0, .int .i64 0, .int .u32 0, .bool false, .bool false, .bool false, .int .i64 0, .slice none 0 0, .slice none 0 0] 30)) [.blk w.heap.size (pkC pk0) 30]) := hid (Sp.in1 ..)
  go_enter Tryd.func30, Tryd.ntmps30
  go_upto_region 1 with fail
  generalize w.alloc (.cells #[.int .i64 0, .int .i64 0, .int .i64 0, .int .i64 0, .int .u8 0, .int .u8 0, .int .u8 0, .int .u8 0, .int .u8 0, .int .u8 0, .int .u8 0, .int .u8 0, .int .u8 0, .int .u8 0, .int .u8 0, .int .u8 0, .int .u8 0, .int .u8 0, .int .u8 0, .int .u8 0, .int .i64 0, .int .u8 0, .int .u8 0, .int .u8 0, .int .u8 0, .int .u8 0, .int .u8 0, .int .u8 0, .int .u8 0, .int .u8 0, .int .u8 0, .int .u8 0, .int .u8 0, .int .u8 0, .int .u8 0, .int .u8 0, .int .u8 0, .int .i64 0, .int .i64 0, .int .u32 0, .bool false, .bool false, .bool false, .int .i64 0, .slice none 0 0, .slice none 0 0] 30) = w' at *
  generalize w.heap.size = b0 at *
  go_wp2_with (first
    | go_skip
    | (((with_reducible show wpList _ _ _ (_ :: _) _ (World.alloc _ (.cells _ 30))); refine wpList_world fun w' hw2 => ?_; replace S := hid (show Sp _ _ (.blk _ (pkC pk0) 30 :: _) from S.out.alloc hw2); clear hw2))
    | ((with_reducible show wpList _ _ _ (⟨_, .convert _ _ _, _, _, _, _⟩ :: _) _ (World.alloc _ (.cells _ 5))); refine wpList_convconst (by rfl) _ rfl S.out 3 rfl exX rfl exX_byt rfl (by decide) ?_; intro w' hS; replace S := hid hS; clear hS)
    | ((with_reducible show wpList _ _ _ (_ :: _) _ (World.alloc _ (.cells _ 5))); refine wpList_world fun w' hw2 => ?_; (first | (replace S := hid (S.out.lit (l := exX) (n := 3) hw2 rfl rfl (by decide))) | (replace S := hid (S.out.lit (l := exB) (n := 23) hw2 rfl rfl (by decide)))); clear hw2)
    | ((with_reducible show wpList _ _ _ _ _ _)
       first
       | ((with_reducible show wpList _ _ _ (⟨_, .load 30 _, _, _, _, _⟩ :: _) _ _); first | (refine wpList_getW (by rfl) _ rfl S.out _ rfl 0 _ rfl (by first | rfl | assumption) (by first | rfl | assumption) ?_) | (refine wpList_getW (by rfl) _ rfl S.out _ rfl 1 _ rfl (by first | rfl | assumption) (by first | rfl | assumption) ?_) | (refine wpList_getW (by rfl) _ rfl S.out _ rfl 2 _ rfl (by first | rfl | assumption) (by first | rfl | assumption) ?_) | (refine wpList_getW (by rfl) _ rfl S.out _ rfl 3 _ rfl (by first | rfl | assumption) (by first | rfl | assumption) ?_) | (refine wpList_getW (by rfl) _ rfl S.out _ rfl 4 _ rfl (by first | rfl | assumption) (by first | rfl | assumption) ?_) | (refine wpList_getW (by rfl) _ rfl S.out _ rfl 5 _ rfl (by first | rfl | assumption) (by first | rfl | assumption) ?_))
       | ((with_reducible show wpList _ _ _ (⟨_, .store _ _ (.tmp 9), _, _, _, _⟩ :: _) _ _); (refine wpList_putW (by rfl) _ _ rfl rfl S.out _ rfl 0 _ rfl (pkO exK (.slice none 0 0) (.slice _ 3 3)) rfl rfl rfl rfl rfl rfl rfl ?_; intro w' hS; simp only [List.set] at hS; replace S := hid hS; clear hS))
       | ((with_reducible show wpList _ _ _ (⟨_, .store _ _ _, _, _, _, _⟩ :: _) _ _); refine wpList_putW (by rfl) _ _ rfl rfl S.out _ rfl 3 _ rfl _ rfl rfl rfl rfl rfl rfl rfl ?_; intro w' hS; simp only [List.set] at hS; replace S := hid hS; clear hS)))
  refine post_pk Tryd.results30 rfl _ _ _ rfl rfl (S.out.pk 3 rfl) rfl rfl ?_
  exact ⟨_, _, _, rfl, S.out.sub (by repeat (first | exact List.Sublist.refl _ | exact List.nil_sublist _ | apply List.Sublist.cons_cons | apply List.Sublist.cons))⟩
theorem rc4_ex : RC4 exK [] exX exB 0 3 23 := by
  have h := rc4_of (q := exK) (os := []) (xs := exX) (exK_is _ _ rfl rfl) Byt.nil exX_byt (ex_right _ _)
  rwa [show b4L exK [] exX = exB from rfl] at h
set_option maxHeartbeats 1000000 in
set_option maxRecDepth 20000 in
theorem alive5_any (w : World) (hT : Tab w) : Calls Tryd.prog 11 #[] w (APost w (.bool true)) := by
  have TB := hid hT
  have C := hid rc4_ex
  have FP := hid (fun W => first5_any W)
  unfold FirstPost at FP
  have L1 : exK.sB.length = 16 := rfl
  have L2 : exK.dB.length = 16 := rfl
  have YB := exB_byt
  have SA := hid (fun W v u (h1 : Rb W v exB) (h2 : Rb W u exB) => (show Calls Tryd.prog 16 #[v, u] W (SameP W true) from by have := sameB_any v u _ _ W h1 h2; rwa [decide_eq_true rfl] at this))
  have P := hid (fun en w' (h1 : en = .returned (.bool true)) (h2 : Sp w w' []) => show APost w (.bool true) en w' from ⟨h1, h2.bel⟩)
  have S : Hid (Sp w w []) := hid (Sp.refl w)
  generalize exB = bl at *
  generalize exX = xs at *
  generalize exK = q at *
  clear hT
  have w' := w
  go_enter Tryd.func11, Tryd.ntmps11
  go_wp2_with (first
    | go_skip
    | (((with_reducible show wpList _ _ _ (_ :: _) _ (World.alloc _ (.cells _ 30))); refine wpList_world fun w' hw2 => ?_; replace S := hid (show Sp _ _ (.blk _ (pkC pk0) 30 :: _) from S.out.alloc hw2); clear hw2))
    | ((with_reducible show wpList _ _ _ _ _ _)
       first
       | ((with_reducible show wpList _ _ _ (⟨_, .load 30 _, _, _, _, _⟩ :: _) _ _); first | (refine wpList_getW (by rfl) _ rfl S.out _ rfl 0 _ rfl (by first | rfl | assumption) (by first | rfl | assumption) ?_) | (refine wpList_getW (by rfl) _ rfl S.out _ rfl 1 _ rfl (by first | rfl | assumption) (by first | rfl | assumption) ?_) | (refine wpList_getW (by rfl) _ rfl S.out _ rfl 2 _ rfl (by first | rfl | assumption) (by first | rfl | assumption) ?_) | (refine wpList_getW (by rfl) _ rfl S.out _ rfl 3 _ rfl (by first | rfl | assumption) (by first | rfl | assumption) ?_) | (refine wpList_getW (by rfl) _ rfl S.out _ rfl 4 _ rfl (by first | rfl | assumption) (by first | rfl | assumption) ?_) | (refine wpList_getW (by rfl) _ rfl S.out _ rfl 5 _ rfl (by first | rfl | assumption) (by first | rfl | assumption) ?_))
       | ((with_reducible show wpList _ _ _ (⟨_, .store _ _ _, _, _, _, _⟩ :: _) _ _); first | (refine wpList_putW (by rfl) _ _ rfl rfl S.out _ rfl 0 _ rfl _ rfl (by first | rfl | assumption) (by first | rfl | assumption) (by first | rfl | assumption) (by first | rfl | assumption) (by first | rfl | assumption) (by first | rfl | assumption) ?_; intro w' hS; simp only [List.set] at hS; replace S := hid hS; clear hS) | (refine wpList_putW (by rfl) _ _ rfl rfl S.out _ rfl 1 _ rfl _ rfl (by first | rfl | assumption) (by first | rfl | assumption) (by first | rfl | assumption) (by first | rfl | assumption) (by first | rfl | assumption) (by first | rfl | assumption) ?_; intro w' hS; simp only [List.set] at hS; replace S := hid hS; clear hS) | (refine wpList_putW (by rfl) _ _ rfl rfl S.out _ rfl 2 _ rfl _ rfl (by first | rfl | assumption) (by first | rfl | assumption) (by first | rfl | assumption) (by first | rfl | assumption) (by first | rfl | assumption) (by first | rfl | assumption) ?_; intro w' hS; simp only [List.set] at hS; replace S := hid hS; clear hS) | (refine wpList_putW (by rfl) _ _ rfl rfl S.out _ rfl 3 _ rfl _ rfl (by first | rfl | assumption) (by first | rfl | assumption) (by first | rfl | assumption) (by first | rfl | assumption) (by first | rfl | assumption) (by first | rfl | assumption) ?_; intro w' hS; simp only [List.set] at hS; replace S := hid hS; clear hS) | (refine wpList_putW (by rfl) _ _ rfl rfl S.out _ rfl 4 _ rfl _ rfl (by first | rfl | assumption) (by first | rfl | assumption) (by first | rfl | assumption) (by first | rfl | assumption) (by first | rfl | assumption) (by first | rfl | assumption) ?_; intro w' hS; simp only [List.set] at hS; replace S := hid hS; clear hS)))
    | (go_at_call 30; refine (FP.out _).mono ?_; rintro en w' ⟨b, sb, cb, rfl, hS⟩; replace hS := S.out.call hS; simp only [List.cons_append, List.nil_append] at hS; replace S := hid hS; clear hS)
    | (go_at_call 18; refine (C.out.bld _ _ _ (by first | exact C.out.pin _ _ _ rfl rfl (Rb.nil _) (S.out.cst 0 rfl) | exact C.out.pin _ _ _ rfl rfl (Rb.nil _) (S.out.cst 1 rfl) | exact C.out.pin _ _ _ rfl rfl (Rb.nil _) (S.out.cst 2 rfl) | exact C.out.pin _ _ _ rfl rfl (Rb.nil _) (S.out.cst 3 rfl) | exact C.out.pin _ _ _ rfl rfl (Rb.nil _) (S.out.cst 4 rfl) | exact C.out.pin _ _ _ rfl rfl (Rb.nil _) (S.out.cst 5 rfl) | exact C.out.pin _ _ _ rfl rfl (Rb.nil _) (S.out.cst 6 rfl) | exact C.out.pin _ _ _ rfl rfl (Rb.nil _) (S.out.cst 7 rfl) | exact C.out.pin _ _ _ rfl rfl (Rb.nil _) (S.out.cst 8 rfl)) (TB.out.below S.out.bel)).mono ?_; rintro en w' ⟨ca, cc, rfl, hS⟩; replace hS := S.out.call hS; simp only [List.cons_append, List.nil_append] at hS; replace S := hid hS; clear hS)
    | (go_at_call 13; refine (C.out.par _ _ (by (first | exact S.out.rb 0 rfl (by assumption) | exact S.out.rb 1 rfl (by assumption) | exact S.out.rb 2 rfl (by assumption) | exact S.out.rb 3 rfl (by assumption) | exact S.out.rb 4 rfl (by assumption) | exact S.out.rb 5 rfl (by assumption) | exact S.out.rb 6 rfl (by assumption))) (TB.out.below S.out.bel)).mono ?_; rintro en w' ⟨so, co, sx, cx, rfl, hS⟩; replace hS := S.out.call hS; simp only [List.cons_append, List.nil_append] at hS; replace S := hid hS; clear hS)
    | (go_at_call 16; refine (SA.out _ _ _ (by (first | exact S.out.rb 0 rfl (by assumption) | exact S.out.rb 1 rfl (by assumption) | exact S.out.rb 2 rfl (by assumption) | exact S.out.rb 3 rfl (by assumption) | exact S.out.rb 4 rfl (by assumption) | exact S.out.rb 5 rfl (by assumption) | exact S.out.rb 6 rfl (by assumption))) (by (first | exact S.out.rb 0 rfl (by assumption) | exact S.out.rb 1 rfl (by assumption) | exact S.out.rb 2 rfl (by assumption) | exact S.out.rb 3 rfl (by assumption) | exact S.out.rb 4 rfl (by assumption) | exact S.out.rb 5 rfl (by assumption) | exact S.out.rb 6 rfl (by assumption)))).mono ?_; rintro en w'' ⟨rfl, rfl⟩)
    | (go_at_call 15; refine (C.out.same _ _ _ _ _ (by first | exact C.out.pin _ _ _ rfl rfl (Rb.nil _) (S.out.cst 0 rfl) | exact C.out.pin _ _ _ rfl rfl (Rb.nil _) (S.out.cst 1 rfl) | exact C.out.pin _ _ _ rfl rfl (Rb.nil _) (S.out.cst 2 rfl) | exact C.out.pin _ _ _ rfl rfl (Rb.nil _) (S.out.cst 3 rfl) | exact C.out.pin _ _ _ rfl rfl (Rb.nil _) (S.out.cst 4 rfl) | exact C.out.pin _ _ _ rfl rfl (Rb.nil _) (S.out.cst 5 rfl) | exact C.out.pin _ _ _ rfl rfl (Rb.nil _) (S.out.cst 6 rfl) | exact C.out.pin _ _ _ rfl rfl (Rb.nil _) (S.out.cst 7 rfl) | exact C.out.pin _ _ _ rfl rfl (Rb.nil _) (S.out.cst 8 rfl)) (by first | exact C.out.pin _ _ _ rfl rfl (S.out.rb 1 rfl C.out.yo) (S.out.rb 0 rfl C.out.yx) | exact C.out.pin _ _ _ rfl rfl (S.out.rb 2 rfl C.out.yo) (S.out.rb 1 rfl C.out.yx) | exact C.out.pin _ _ _ rfl rfl (S.out.rb 3 rfl C.out.yo) (S.out.rb 2 rfl C.out.yx) | exact C.out.pin _ _ _ rfl rfl (S.out.rb 4 rfl C.out.yo) (S.out.rb 3 rfl C.out.yx) | exact C.out.pin _ _ _ rfl rfl (S.out.rb 5 rfl C.out.yo) (S.out.rb 4 rfl C.out.yx) | exact C.out.pin _ _ _ rfl rfl (S.out.rb 6 rfl C.out.yo) (S.out.rb 5 rfl C.out.yx) | exact C.out.pin _ _ _ rfl rfl (S.out.rb 7 rfl C.out.yo) (S.out.rb 6 rfl C.out.yx) | exact C.out.pin _ _ _ rfl rfl (S.out.rb 8 rfl C.out.yo) (S.out.rb 7 rfl C.out.yx))).mono ?_; rintro en w' ⟨rfl, hb⟩; replace S := hid (S.out.keep hb); clear hb)
    | (go_at_call 20; refine (C.out.rgt _ _ _ (by first | exact C.out.pin _ _ _ rfl rfl (Rb.nil _) (S.out.cst 0 rfl) | exact C.out.pin _ _ _ rfl rfl (Rb.nil _) (S.out.cst 1 rfl) | exact C.out.pin _ _ _ rfl rfl (Rb.nil _) (S.out.cst 2 rfl) | exact C.out.pin _ _ _ rfl rfl (Rb.nil _) (S.out.cst 3 rfl) | exact C.out.pin _ _ _ rfl rfl (Rb.nil _) (S.out.cst 4 rfl) | exact C.out.pin _ _ _ rfl rfl (Rb.nil _) (S.out.cst 5 rfl) | exact C.out.pin _ _ _ rfl rfl (Rb.nil _) (S.out.cst 6 rfl) | exact C.out.pin _ _ _ rfl rfl (Rb.nil _) (S.out.cst 7 rfl) | exact C.out.pin _ _ _ rfl rfl (Rb.nil _) (S.out.cst 8 rfl)) (TB.out.below S.out.bel)).mono ?_; rintro en w' ⟨rfl, hb⟩; replace S := hid (S.out.keep hb); clear hb)
    | (go_at_call 22; refine (C.out.hd _ _ _ (by first | exact C.out.pin _ _ _ rfl rfl (Rb.nil _) (S.out.cst 0 rfl) | exact C.out.pin _ _ _ rfl rfl (Rb.nil _) (S.out.cst 1 rfl) | exact C.out.pin _ _ _ rfl rfl (Rb.nil _) (S.out.cst 2 rfl) | exact C.out.pin _ _ _ rfl rfl (Rb.nil _) (S.out.cst 3 rfl) | exact C.out.pin _ _ _ rfl rfl (Rb.nil _) (S.out.cst 4 rfl) | exact C.out.pin _ _ _ rfl rfl (Rb.nil _) (S.out.cst 5 rfl) | exact C.out.pin _ _ _ rfl rfl (Rb.nil _) (S.out.cst 6 rfl) | exact C.out.pin _ _ _ rfl rfl (Rb.nil _) (S.out.cst 7 rfl) | exact C.out.pin _ _ _ rfl rfl (Rb.nil _) (S.out.cst 8 rfl)) (TB.out.below S.out.bel)).mono ?_; rintro en w' ⟨rfl, hb⟩; replace S := hid (S.out.keep hb); clear hb))
  all_goals
    go_ret
    exact P.out _ _ rfl S.out.nil
end Go.Proofs.YtaecfcaeopmiaaaDoor
