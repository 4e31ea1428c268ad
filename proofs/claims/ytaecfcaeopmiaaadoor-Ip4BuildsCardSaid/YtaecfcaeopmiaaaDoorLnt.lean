/-
  As Region2, where three operations may come up next as well.
-/
import Derived.Test.YtaecfcaeopmiaaaDoorTree
import Derived.Test.YtaecfcaeopmiaaaDoorSameQ
import Derived.Test.YtaecfcaeopmiaaaDoorWide
namespace Go.Proofs.YtaecfcaeopmiaaaDoor
section
variable {P : Program} {ops : Array Oper} {S : World → Prop} {Q : Exit → Act → World → Prop}

/-- the ways in which a region's operations are taken -/
inductive Ort where
  | done
  | weak (i : Nat) (t : Ort)
  | strong (i : Nat) (t : Ort)
  | two (i j : Nat) (t u : Ort)
  | three (i j k : Nat) (t u v : Ort)
def Ort.size : Ort → Nat
  | .done => 0
  | .weak _ t => t.size + 1
  | .strong _ t => t.size + 1
  | .two _ _ t u => max t.size u.size + 1
  | .three _ _ _ t u v => max t.size (max u.size v.size) + 1
/-- are these all the ways that matter? -/
def Ort.ok (ops : Array Oper) : Ort → Array Bool → Bool
  | .done, listed => (Region.ready .any ops listed).isEmpty
  | .weak i t, listed => decide (i < ops.size) && (Region.free .any ops listed i && ((Region.ready .any ops listed).contains i && t.ok ops (listed.setIfInBounds i true)))
  | .strong i t, listed => decide (i < ops.size) && ((Region.ready .any ops listed == [i]) && t.ok ops (listed.setIfInBounds i true))
  | .two i j t u, listed => (decide (i < ops.size) && decide (j < ops.size)) && ((Region.ready .any ops listed == [i, j]) && (t.ok ops (listed.setIfInBounds i true) && u.ok ops (listed.setIfInBounds j true)))
  | .three i j k t u v, listed => (decide (i < ops.size) && (decide (j < ops.size) && decide (k < ops.size))) && ((Region.ready .any ops listed == [i, j, k]) && (t.ok ops (listed.setIfInBounds i true) && (u.ok ops (listed.setIfInBounds j true) && v.ok ops (listed.setIfInBounds k true))))

/-- the walk in these ways -/
def wpOT (P : Program) (ops : Array Oper) (S : World → Prop) (Q : Exit → Act → World → Prop) : Ort → Act → World → Prop
  | .done, a, w => Q .normal a w
  | .weak i t, a, w => ∃ o v, ops[i]? = some o ∧ YieldsIf P ops S o v a ∧ wpOT P ops S Q t (a.put o.dst v) w
  | .strong i t, a, w => wpOp P ops Q i (fun a' w' => S w' ∧ wpOT P ops S Q t a' w') a w
  | .two i j t u, a, w => wpOp P ops Q i (fun a' w' => S w' ∧ wpOT P ops S Q t a' w') a w ∧ wpOp P ops Q j (fun a' w' => S w' ∧ wpOT P ops S Q u a' w') a w
  | .three i j k t u v, a, w => wpOp P ops Q i (fun a' w' => S w' ∧ wpOT P ops S Q t a' w') a w ∧ wpOp P ops Q j (fun a' w' => S w' ∧ wpOT P ops S Q u a' w') a w ∧ wpOp P ops Q k (fun a' w' => S w' ∧ wpOT P ops S Q v a' w') a w

theorem wpAnyH_ort (hs : Region.noSelect ops = true) (hQ : ∀ c (a : Act) d v w, Q (.panic c) (a.put d v) w → Q (.panic c) a w) :
    ∀ (t : Ort) (fuel : Nat) (listed : Array Bool) (a : Act) (w : World), t.size ≤ fuel → t.ok ops listed = true → S w → wpOT P ops S Q t a w → wpAnyH P .any ops Q S fuel listed a w
  | .done, fuel, listed, a, w, _, hB, _, h => wpAnyH_done (by simpa [Ort.ok] using hB) h fuel
  | .weak i t, 0, _, _, _, hl, _, _, _ => by simp [Ort.size] at hl
  | .strong i t, 0, _, _, _, hl, _, _, _ => by simp [Ort.size] at hl
  | .two i j t u, 0, _, _, _, hl, _, _, _ => by simp [Ort.size] at hl
  | .three i j k t u v, 0, _, _, _, hl, _, _, _ => by simp [Ort.size] at hl
  | .weak i t, fuel + 1, listed, a, w, hl, hB, hS, h => by
    simp only [Ort.ok, Bool.and_eq_true] at hB
    obtain ⟨o, v, ho, hy, h'⟩ := h
    exact wpAnyH_take ho hs hB.2.1 hB.2.2.1 (fun c a w => hQ c a _ v w) hy hS (wpAnyH_ort hs hQ t fuel _ _ _ (by simpa [Ort.size] using hl) hB.2.2.2 hS h')
  | .strong i t, fuel + 1, listed, a, w, hl, hB, hS, h => by
    simp only [Ort.ok, Bool.and_eq_true, beq_iff_eq] at hB
    refine wpAnyH_all hB.2.1 (by simp) fun j hj => ?_
    obtain rfl : j = i := by simpa using hj
    exact wpOp_mono (fun a' w' h' => ⟨h'.1, wpAnyH_ort hs hQ t fuel _ _ _ (by simpa [Ort.size] using hl) hB.2.2 h'.1 h'.2⟩) h
  | .two i j t u, fuel + 1, listed, a, w, hl, hB, hS, h => by
    simp only [Ort.ok, Bool.and_eq_true, beq_iff_eq] at hB
    have hl' : max t.size u.size ≤ fuel := by simpa [Ort.size] using hl
    refine wpAnyH_all hB.2.1 (by simp) fun k hk => ?_
    rcases List.mem_cons.1 hk with rfl | hk
    · exact wpOp_mono (fun a' w' h' => ⟨h'.1, wpAnyH_ort hs hQ t fuel _ _ _ (by omega) hB.2.2.1 h'.1 h'.2⟩) h.1
    · obtain rfl : k = j := by simpa using hk
      exact wpOp_mono (fun a' w' h' => ⟨h'.1, wpAnyH_ort hs hQ u fuel _ _ _ (by omega) hB.2.2.2 h'.1 h'.2⟩) h.2
  | .three i j k t u v, fuel + 1, listed, a, w, hl, hB, hS, h => by
    simp only [Ort.ok, Bool.and_eq_true, beq_iff_eq] at hB
    have hl' : max t.size (max u.size v.size) ≤ fuel := by simpa [Ort.size] using hl
    refine wpAnyH_all hB.2.1 (by simp) fun m hm => ?_
    rcases List.mem_cons.1 hm with rfl | hm
    · exact wpOp_mono (fun a' w' h' => ⟨h'.1, wpAnyH_ort hs hQ t fuel _ _ _ (by omega) hB.2.2.1 h'.1 h'.2⟩) h.1
    · rcases List.mem_cons.1 hm with rfl | hm
      · exact wpOp_mono (fun a' w' h' => ⟨h'.1, wpAnyH_ort hs hQ u fuel _ _ _ (by omega) hB.2.2.2.1 h'.1 h'.2⟩) h.2.1
      · obtain rfl : m = k := by simpa using hm
        exact wpOp_mono (fun a' w' h' => ⟨h'.1, wpAnyH_ort hs hQ v fuel _ _ _ (by omega) hB.2.2.2.2 h'.1 h'.2⟩) h.2.2

/-- the ways with the operations themselves -/
inductive OrtO where
  | done
  | weak (o : Oper) (t : OrtO)
  | strong (o : Oper) (t : OrtO)
  | two (o p : Oper) (t u : OrtO)
  | three (o p q : Oper) (t u v : OrtO)
def Ort.pick (l : List Oper) : Ort → OrtO
  | .done => .done
  | .weak i t => match l[i]? with
    | some o => .weak o (t.pick l)
    | none => .done
  | .strong i t => match l[i]? with
    | some o => .strong o (t.pick l)
    | none => .done
  | .two i j t u => match l[i]?, l[j]? with
    | some o, some p => .two o p (t.pick l) (u.pick l)
    | _, _ => .done
  | .three i j k t u v => match l[i]?, l[j]?, l[k]? with
    | some o, some p, some q => .three o p q (t.pick l) (u.pick l) (v.pick l)
    | _, _, _ => .done
def wpT (P : Program) (ops : Array Oper) (S : World → Prop) (Q : Exit → Act → World → Prop) : OrtO → Act → World → Prop
  | .done, a, w => Q .normal a w
  | .weak o t, a, w => ∃ v, YieldsIf P ops S o v a ∧ wpT P ops S Q t (a.put o.dst v) w
  | .strong o t, a, w => wpS P ops S Q o (wpT P ops S Q t) a w
  | .two o p t u, a, w => wpS P ops S Q o (wpT P ops S Q t) a w ∧ wpS P ops S Q p (wpT P ops S Q u) a w
  | .three o p q t u v, a, w => wpS P ops S Q o (wpT P ops S Q t) a w ∧ wpS P ops S Q p (wpT P ops S Q u) a w ∧ wpS P ops S Q q (wpT P ops S Q v) a w
theorem wpOT_of_wpT {l : List Oper} : ∀ (t : Ort) (listed : Array Bool) (a : Act) (w : World), t.ok l.toArray listed = true → wpT P l.toArray S Q (t.pick l) a w → wpOT P l.toArray S Q t a w
  | .done, _, _, _, _, h => h
  | .weak i t, listed, a, w, hb, h => by
    simp only [Ort.ok, Bool.and_eq_true, decide_eq_true_eq, List.size_toArray] at hb
    have hi : l[i]? = some l[i] := List.getElem?_eq_getElem hb.1
    simp only [Ort.pick, hi] at h
    obtain ⟨v, hy, hr⟩ := h
    exact ⟨l[i], v, by rw [List.getElem?_toArray]; exact hi, hy, wpOT_of_wpT t _ _ _ hb.2.2.2 hr⟩
  | .strong i t, listed, a, w, hb, h => by
    simp only [Ort.ok, Bool.and_eq_true, decide_eq_true_eq, List.size_toArray] at hb
    have hi : l[i]? = some l[i] := List.getElem?_eq_getElem hb.1
    simp only [Ort.pick, hi] at h
    exact wpOp_of_wpS hi (fun a w => wpOT_of_wpT t _ a w hb.2.2) h
  | .two i j t u, listed, a, w, hb, h => by
    simp only [Ort.ok, Bool.and_eq_true, decide_eq_true_eq, List.size_toArray] at hb
    have hi : l[i]? = some l[i] := List.getElem?_eq_getElem hb.1.1
    have hj : l[j]? = some l[j] := List.getElem?_eq_getElem hb.1.2
    simp only [Ort.pick, hi, hj] at h
    exact ⟨wpOp_of_wpS hi (fun a w => wpOT_of_wpT t _ a w hb.2.2.1) h.1, wpOp_of_wpS hj (fun a w => wpOT_of_wpT u _ a w hb.2.2.2) h.2⟩
  | .three i j k t u v, listed, a, w, hb, h => by
    simp only [Ort.ok, Bool.and_eq_true, decide_eq_true_eq, List.size_toArray] at hb
    have hi : l[i]? = some l[i] := List.getElem?_eq_getElem hb.1.1
    have hj : l[j]? = some l[j] := List.getElem?_eq_getElem hb.1.2.1
    have hk : l[k]? = some l[k] := List.getElem?_eq_getElem hb.1.2.2
    simp only [Ort.pick, hi, hj, hk] at h
    exact ⟨wpOp_of_wpS hi (fun a w => wpOT_of_wpT t _ a w hb.2.2.1) h.1, wpOp_of_wpS hj (fun a w => wpOT_of_wpT u _ a w hb.2.2.2.1) h.2.1, wpOp_of_wpS hk (fun a w => wpOT_of_wpT v _ a w hb.2.2.2.2) h.2.2⟩

/-- the beginning -/
theorem wp_region_ort {id : Nat} {l : List Oper} {a : Act} {w : World} (t : Ort) (S : World → Prop) (hm : P.follows .mixedOrders = true)
    (hB : (Region.noSelect l.toArray && (decide (t.size ≤ l.length) && t.ok l.toArray (Array.replicate l.toArray.size false))) = true)
    (hQ : ∀ c (a : Act) d v w, Q (.panic c) (a.put d v) w → Q (.panic c) a w)
    (hS : S w.drew) (h : wpT P l.toArray S Q (t.pick l) a w.drew) : (Code.region id l.toArray true).wp P Q a w := by
  simp only [Bool.and_eq_true, decide_eq_true_eq] at hB
  refine wp_region_held (S := S) hm ?_
  exact wpAnyH_ort hB.1 hQ t _ _ _ _ (by simp; exact hB.2.1) hB.2.2 hS (wpOT_of_wpT t _ _ _ hB.2.2 h)

theorem wpT_done {a : Act} {w : World} (h : Q .normal a w) : wpT P ops S Q .done a w := h
theorem wpT_weak {o : Oper} {t : OrtO} {a : Act} {w : World} (hg : Region.wanted o (yielded ops a.tmps) = true)
    (h : ∃ v, (∀ w', S w' → (execOp a.eval o).run P w' = .ok (.value v) w') ∧ wpT P ops S Q t (a.put o.dst v) w) : wpT P ops S Q (.weak o t) a w :=
  let ⟨v, hv, hr⟩ := h
  ⟨v, .inl ⟨hg, hv⟩, hr⟩
theorem wpT_pass {o : Oper} {t : OrtO} {a : Act} {w : World} (hg : Region.wanted o (yielded ops a.tmps) = false)
    (h : wpT P ops S Q t (a.put o.dst undef) w) : wpT P ops S Q (.weak o t) a w := ⟨undef, .inr ⟨hg, rfl⟩, h⟩
theorem wpT_strong {o : Oper} {t : OrtO} {a : Act} {w : World} (h : wpS P ops S Q o (wpT P ops S Q t) a w) : wpT P ops S Q (.strong o t) a w := h
theorem wpT_two {o p : Oper} {t u : OrtO} {a : Act} {w : World} (h : wpS P ops S Q o (wpT P ops S Q t) a w) (h' : wpS P ops S Q p (wpT P ops S Q u) a w) : wpT P ops S Q (.two o p t u) a w := ⟨h, h'⟩
theorem wpT_strongL {o : Oper} {t : OrtO} {a : Act} {w : World} (hg : Region.wanted o (yielded ops a.tmps) = true) (h : wpList P ops (qEnd (fun a' w' => S w' ∧ wpT P ops S Q t a' w') Q) [o] a w) : wpT P ops S Q (.strong o t) a w := wpS_list hg h
theorem wpT_twoL {o p : Oper} {t u : OrtO} {a : Act} {w : World} (hg : Region.wanted o (yielded ops a.tmps) = true) (hg2 : Region.wanted p (yielded ops a.tmps) = true)
    (h : wpList P ops (qEnd (fun a' w' => S w' ∧ wpT P ops S Q t a' w') Q) [o] a w) (h2 : wpList P ops (qEnd (fun a' w' => S w' ∧ wpT P ops S Q u a' w') Q) [p] a w) : wpT P ops S Q (.two o p t u) a w := ⟨wpS_list hg h, wpS_list hg2 h2⟩
theorem wpT_threeL {o p q : Oper} {t u v : OrtO} {a : Act} {w : World} (hg : Region.wanted o (yielded ops a.tmps) = true) (hg2 : Region.wanted p (yielded ops a.tmps) = true) (hg3 : Region.wanted q (yielded ops a.tmps) = true)
    (h : wpList P ops (qEnd (fun a' w' => S w' ∧ wpT P ops S Q t a' w') Q) [o] a w) (h2 : wpList P ops (qEnd (fun a' w' => S w' ∧ wpT P ops S Q u a' w') Q) [p] a w) (h3 : wpList P ops (qEnd (fun a' w' => S w' ∧ wpT P ops S Q v a' w') Q) [q] a w) : wpT P ops S Q (.three o p q t u v) a w := ⟨wpS_list hg h, wpS_list hg2 h2, wpS_list hg3 h3⟩
end
open Go.RowKit
theorem wpE_loadP {ops : Array Oper} {S : World → Prop} {Q : Exit → Act → World → Prop} {o : Oper} {t : OrdO} {a : Act} {w : World} (hg : Region.wanted o (yielded ops a.tmps) = true) (x : Operand) (ho : o.op = .load 30 x)
    (b : Nat) (p : Pk) (hx : a.eval x = .pointer (some ⟨b, 0, none⟩)) (hS : ∀ w', S w' → PkAt w' b p) (h1 : p.sB.length = 16) (h2 : p.dB.length = 16) (h : wpE Tryd.prog ops S Q t (a.put o.dst (.agg (pkC p))) w) : wpE Tryd.prog ops S Q (.weak o t) a w :=
  wpE_weak hg ⟨_, fun w' hw => by
    unfold execOp
    simp only [ho, hx, Instr.loadAt, Instr.sureAddr, Sem.run_bind, Sem.run_pure, Result.andThen_ok, run_loadVar_row w' b 30 30 (pkC p) (0, 0) _ (hS w' hw) Tryd.underlying30 rfl (by rw [packet_info, pkC_size h1 h2])], h⟩
theorem wpE_front {ops : Array Oper} {S : World → Prop} {Q : Exit → Act → World → Prop} {o : Oper} {t : OrdO} {a : Act} {w : World} (hg : Region.wanted o (yielded ops a.tmps) = true) (x y : Operand) (ho : o.op = .slice 22 x none (some y) none)
    (ad : Option Go.Addr) (n cap : Nat) (hx : a.eval x = .slice ad n cap) (k : IntKind) (z : Int) (hy : a.eval y = .int k z) (j : Nat) (hz : z = j) (hj : j ≤ cap) (h : wpE Tryd.prog ops S Q t (a.put o.dst (.slice ad j cap)) w) : wpE Tryd.prog ops S Q (.weak o t) a w := by
  obtain ⟨i0, hi, hz0, hz1, hz2⟩ := info_parts Tryd.info5
  refine wpE_weak hg ⟨_, fun w' _ => ?_, h⟩
  unfold execOp
  simp only [ho, hx, Option.map_some, Option.map_none, hy, Instr.sliceAt, run_underlying (P := Tryd.prog) Tryd.underlying22 w', run_slice_h_sub (P := Tryd.prog) 22 5 Tryd.underlying22 hi hz1 ad n cap k z j hz hj w', Sem.run_bind, Sem.run_pure, Result.andThen_ok]
theorem sameK_refl (p : Pk) (o x : Value) (os xs : List Int) : sameK (pkO p o x) p os os xs xs = true := by simp [sameK, pkO]
/-- the orders of the regions that lend a list: two loads, a copy, a literal, one behind the other, and the store -/
def lentOrt : Ort := (.weak 0 (.weak 5 (.three 1 3 6 (.three 2 3 6 (.two 3 6 (.two 4 6 (.strong 6 (.weak 7 (.weak 8 (.weak 9 (.strong 10 .done))))) (.weak 7 (.strong 4 (.weak 8 (.weak 9 (.strong 10 .done)))))) (.weak 7 (.strong 3 (.strong 4 (.weak 8 (.weak 9 (.strong 10 .done))))))) (.two 2 6 (.two 4 6 (.strong 6 (.weak 7 (.weak 8 (.weak 9 (.strong 10 .done))))) (.weak 7 (.strong 4 (.weak 8 (.weak 9 (.strong 10 .done)))))) (.weak 7 (.strong 2 (.strong 4 (.weak 8 (.weak 9 (.strong 10 .done))))))) (.weak 7 (.two 2 3 (.strong 3 (.strong 4 (.weak 8 (.weak 9 (.strong 10 .done))))) (.strong 2 (.strong 4 (.weak 8 (.weak 9 (.strong 10 .done)))))))) (.two 1 6 (.two 2 6 (.two 4 6 (.strong 6 (.weak 7 (.weak 8 (.weak 9 (.strong 10 .done))))) (.weak 7 (.strong 4 (.weak 8 (.weak 9 (.strong 10 .done)))))) (.weak 7 (.strong 2 (.strong 4 (.weak 8 (.weak 9 (.strong 10 .done))))))) (.weak 7 (.strong 1 (.strong 2 (.strong 4 (.weak 8 (.weak 9 (.strong 10 .done)))))))) (.weak 7 (.two 1 3 (.two 2 3 (.strong 3 (.strong 4 (.weak 8 (.weak 9 (.strong 10 .done))))) (.strong 2 (.strong 4 (.weak 8 (.weak 9 (.strong 10 .done)))))) (.strong 1 (.strong 2 (.strong 4 (.weak 8 (.weak 9 (.strong 10 .done)))))))))))
def LentPost (p : Pk) (lo ld : List Int) (no nx : Nat) (w : World) (en : Ending) (w' : World) : Prop :=
  ∃ so co sx cx, en = .returned (.agg (pkC (pkO p (.slice so no co) (.slice sx nx cx)))) ∧ Sp w w' [.row (.slice sx (nx + 2) cx) 5 1 (nx + 2) (bts (ld ++ [167, 168])), .row (.slice so (no + 2) co) 5 1 (no + 2) (bts (lo ++ [165, 166]))]
set_option maxHeartbeats 4000000 in
set_option maxRecDepth 20000 in
theorem lent_any (p : Pk) (lo ld : List Int) (w : World) (h : Pin w p lo ld) (hl : lo.length ≤ 140737488355328 ∧ ld.length ≤ 140737488355328) : Calls Tryd.prog 17 #[.agg (pkC p)] w (LentPost p lo ld lo.length ld.length w) := by
  have OO := hid (fun W v (hv : Rb W v lo) => ownB_any v lo W hv hl.1)
  have OX := hid (fun W v (hv : Rb W v ld) => ownB_any v ld W hv hl.2)
  have L1 := h.pk.src.len
  have L2 := h.pk.dst.len
  have PO := hid h.oR
  have PX := hid h.xR
  have Y1 : Byt [165, 166] := by intro x hx; simp at hx; omega
  have Y2 : Byt [167, 168] := by intro x hx; simp at hx; omega
  obtain ⟨oa, oc, eo, hoc, hom, _⟩ := h.oR.open
  obtain ⟨xa, xc, ex, hxc, hxm, _⟩ := h.xR.open
  unfold maxLen at hom hxm
  have P := hid (fun w' so co sx cx (hS : Sp w w' [.row (.slice sx (ld.length + 2) cx) 5 1 (ld.length + 2) (bts (ld ++ [167, 168])), .row (.slice so (lo.length + 2) co) 5 1 (lo.length + 2) (bts (lo ++ [165, 166]))]) => (show LentPost p lo ld lo.length ld.length w (.returned (.agg (pkC (pkO p (.slice so lo.length co) (.slice sx ld.length cx))))) w' from ⟨so, co, sx, cx, rfl, hS⟩))
  have S : Hid (Sp w ((w.alloc (.cells (pkC p) 30)).alloc (.cells #[.int .i64 0, .int .i64 0, .int .i64 0, .int .i64 0, .int .u8 0, .int .u8 0, .int .u8 0, .int .u8 0, .int .u8 0, .int .u8 0, .int .u8 0, .int .u8 0, .int .u8 0, .int .u8 0, .int .u8 0, .int .u8 0, .int .u8 0, .int .u8 0, .int .u8 0, .int .u8 0, .int .i64 0, .int .u8 0, .int .u8 0, .int .u8 0, .int .u8 0, .int .u8 0, .int .u8 0, .int .u8 0, .int .u8 0, .int .u8 0, .int .u8 0, .int .u8 0, .int .u8 0, .int .u8 0, .int .u8 0, .int .u8 0, .int .u8 0, .int .i64 0, .int .i64 0, .int .u32 0, .bool false, .bool false, .bool false, .int .i64 0, .slice none 0 0, .slice none 0 0] 30)) [.blk (w.heap.size + 1) (pkC pk0) 30, .blk w.heap.size (pkC p) 30]) := hid (Sp.in2 ..)
  obtain ⟨V, TOS, Flow, sV, sB, dV, dB, Proto, TTL, ID, DF, More, Frag, Off, ov, xv⟩ := p
  simp only at *
  subst eo ex
  generalize lo.length = no at *
  generalize ld.length = nx at *
  obtain ⟨hl1, hl2⟩ := hl
  clear h
  go_enter Tryd.func17, Tryd.ntmps17
  go_upto_region 1 with fail
  generalize (w.alloc (.cells (pkC _) 30)).alloc (.cells #[.int .i64 0, .int .i64 0, .int .i64 0, .int .i64 0, .int .u8 0, .int .u8 0, .int .u8 0, .int .u8 0, .int .u8 0, .int .u8 0, .int .u8 0, .int .u8 0, .int .u8 0, .int .u8 0, .int .u8 0, .int .u8 0, .int .u8 0, .int .u8 0, .int .u8 0, .int .u8 0, .int .i64 0, .int .u8 0, .int .u8 0, .int .u8 0, .int .u8 0, .int .u8 0, .int .u8 0, .int .u8 0, .int .u8 0, .int .u8 0, .int .u8 0, .int .u8 0, .int .u8 0, .int .u8 0, .int .u8 0, .int .u8 0, .int .u8 0, .int .i64 0, .int .i64 0, .int .u32 0, .bool false, .bool false, .bool false, .int .i64 0, .slice none 0 0, .slice none 0 0] 30) = w' at *
  generalize w.heap.size = b at *
  go_cut [1] from 3 (fun v wc => v = .pointer (some ⟨b, 0, none⟩) ∧ ∃ so co, Sp w wc [.row (.slice so (no + 2) co) 5 1 (no + 2) (bts (lo ++ [165, 166])), .blk (b + 1) (pkC pk0) 30, .blk b (pkC ⟨V, TOS, Flow, sV, sB, dV, dB, Proto, TTL, ID, DF, More, Frag, Off, .slice so no co, .slice xa nx xc⟩) 30])
  case first =>
    refine wp_region_ort lentOrt (fun W => Sp w W []) (by kernel_rfl) (by kernel_rfl) (fun c a d v w h => by cases d <;> exact h) ?_ ?_
    · exact (S.out.same (Same.drew _)).nil
    replace S := hid (S.out.same (Same.drew w'))
    generalize w'.drew = w' at *
    simp only [lentOrt, Ort.pick, List.getElem?_cons_succ, List.getElem?_cons_zero]
    repeat' (first
      | ((with_reducible show wpT _ _ _ _ _ _ _); (first | (refine wpT_weak (by rfl) ?_; apply Exists.intro; refine ⟨fun wS hS => ?_, ?_⟩; (focus (go_simp; (try with_reducible rfl); done)); simp only [Act.put, List.setIfInBounds_toArray, List.set_cons_zero, List.set_cons_succ]) | (refine wpT_pass (by rfl) ?_; simp only [Act.put, List.setIfInBounds_toArray, List.set_cons_zero, List.set_cons_succ])))
      | ((with_reducible show wpT _ _ _ _ _ _ _); refine wpT_strongL (by rfl) ?_)
      | ((with_reducible show wpT _ _ _ _ _ _ _); refine wpT_twoL (by rfl) (by rfl) ?_ ?_)
      | ((with_reducible show wpT _ _ _ _ _ _ _); refine wpT_threeL (by rfl) (by rfl) (by rfl) ?_ ?_ ?_)
      | ((with_reducible show wpList _ _ _ _ _ _); go_wp2_with (first
        | go_skip
        | ((with_reducible show wpList _ _ _ _ _ _); first
            | (at_builtin; first
              | (refine wpList_growW (by rfl) _ _ rfl S.out 0 rfl rfl _ [165, 166] rfl (S.out.rb 1 rfl Y1) (no + 2) (by rfl) (by omega) (by omega) ?_; rintro ca cc w' hS; simp only [List.set_cons_zero, List.set_cons_succ] at hS; replace S := hid hS; clear hS; have hcc := (S.out.cap 0 rfl).1; have hc1 : no ≤ cc := (by omega); have hc2 : (no : Int) ≤ (cc : Int) := (by omega))
              | (refine wpList_growW (by rfl) _ _ rfl S.out 1 rfl rfl _ [165, 166] rfl (S.out.rb 0 rfl Y1) (no + 2) (by rfl) (by omega) (by omega) ?_; rintro ca cc w' hS; simp only [List.set_cons_zero, List.set_cons_succ] at hS; replace S := hid hS; clear hS; have hcc := (S.out.cap 1 rfl).1; have hc1 : no ≤ cc := (by omega); have hc2 : (no : Int) ≤ (cc : Int) := (by omega)))
            | ((with_reducible show wpList _ _ _ (⟨_, .load _ _, _, _, _, _⟩ :: _) _ _); first | (refine wpList_get_pk (by rfl) _ _ rfl S.out _ _ rfl 1 _ rfl _ rfl (by rfl) (by first | rfl | assumption) (by first | rfl | assumption) ?_) | (refine wpList_get_pk (by rfl) _ _ rfl S.out _ _ rfl 2 _ rfl _ rfl (by rfl) (by first | rfl | assumption) (by first | rfl | assumption) ?_) | (refine wpList_get_pk (by rfl) _ _ rfl S.out _ _ rfl 3 _ rfl _ rfl (by rfl) (by first | rfl | assumption) (by first | rfl | assumption) ?_))
            | ((with_reducible show wpList _ _ _ (⟨_, .store _ _ _, _, _, _, _⟩ :: _) _ _); first | (refine wpList_put_pk (by rfl) _ _ _ rfl rfl S.out _ _ rfl 3 _ rfl _ rfl _ rfl (by rfl) (by first | rfl | assumption) (by first | rfl | assumption) ?_; intro w' hS; simp only [List.set] at hS; replace S := hid hS; clear hS)))
        | (go_at_call 12; refine (OO.out _ _ (PO.out.below S.out.bel)).mono ?_; rintro en w' ⟨sz, cz, rfl, hS⟩; replace hS := S.out.call hS; simp only [List.cons_append, List.nil_append] at hS; replace S := hid hS; clear hS)))
      | ((with_reducible show qEnd _ _ _ _ (World.alloc _ (.cells _ 5))); refine (fun (h : ∀ w2, w2 = World.alloc _ _ → qEnd _ _ .normal _ w2) => h _ rfl) ?_; intro w' hw2; (first | (replace S := hid (S.out.lit (l := [165, 166]) (n := 2) hw2 rfl rfl (by decide))) | (replace S := hid (S.out.lit (l := [167, 168]) (n := 2) hw2 rfl rfl (by decide)))); clear hw2)
      | ((with_reducible show qEnd _ _ _ _ _); refine qEnd_done S.out.nil ?_; (try simp only [Act.put, List.setIfInBounds_toArray, List.set_cons_zero, List.set_cons_succ]))
      | ((with_reducible show wpT _ _ _ _ _ _ _); refine wpT_done ?_; go_simp; go_step; go_meet))
    all_goals refine ⟨rfl, ca, cc, ?_⟩; have hS := S.out; first | (have hq := hS.cap 0 rfl; clear hq; (first | (refine hS.sub ?_; ((repeat (first | exact List.Sublist.refl _ | exact List.nil_sublist _ | apply List.Sublist.cons_cons | apply List.Sublist.cons)); done))))
  case rest =>
  obtain ⟨rfl, so, co, hS⟩ := hcut
  replace S := hid hS
  clear hS w'
  have w' := wc
  go_upto_region 2 with fail
  go_cut [1] from 13 (fun v wc => v = .pointer (some ⟨b, 0, none⟩) ∧ ∃ sx cx, Sp w wc [.row (.slice sx (nx + 2) cx) 5 1 (nx + 2) (bts (ld ++ [167, 168])), .row (.slice so (no + 2) co) 5 1 (no + 2) (bts (lo ++ [165, 166])), .blk (b + 1) (pkC pk0) 30, .blk b (pkC ⟨V, TOS, Flow, sV, sB, dV, dB, Proto, TTL, ID, DF, More, Frag, Off, .slice so no co, .slice sx nx cx⟩) 30])
  case first =>
    refine wp_region_ort lentOrt (fun W => Sp w W []) (by kernel_rfl) (by kernel_rfl) (fun c a d v w h => by cases d <;> exact h) ?_ ?_
    · exact (S.out.same (Same.drew _)).nil
    replace S := hid (S.out.same (Same.drew wc))
    generalize wc.drew = w' at *
    simp only [lentOrt, Ort.pick, List.getElem?_cons_succ, List.getElem?_cons_zero]
    repeat' (first
      | ((with_reducible show wpT _ _ _ _ _ _ _); (first | (refine wpT_weak (by rfl) ?_; apply Exists.intro; refine ⟨fun wS hS => ?_, ?_⟩; (focus (go_simp; (try with_reducible rfl); done)); simp only [Act.put, List.setIfInBounds_toArray, List.set_cons_zero, List.set_cons_succ]) | (refine wpT_pass (by rfl) ?_; simp only [Act.put, List.setIfInBounds_toArray, List.set_cons_zero, List.set_cons_succ])))
      | ((with_reducible show wpT _ _ _ _ _ _ _); refine wpT_strongL (by rfl) ?_)
      | ((with_reducible show wpT _ _ _ _ _ _ _); refine wpT_twoL (by rfl) (by rfl) ?_ ?_)
      | ((with_reducible show wpT _ _ _ _ _ _ _); refine wpT_threeL (by rfl) (by rfl) (by rfl) ?_ ?_ ?_)
      | ((with_reducible show wpList _ _ _ _ _ _); go_wp2_with (first
        | go_skip
        | ((with_reducible show wpList _ _ _ _ _ _); first
            | (at_builtin; first
              | (refine wpList_growW (by rfl) _ _ rfl S.out 0 rfl rfl _ [167, 168] rfl (S.out.rb 1 rfl Y2) (nx + 2) (by rfl) (by omega) (by omega) ?_; rintro ca cc w' hS; simp only [List.set_cons_zero, List.set_cons_succ] at hS; replace S := hid hS; clear hS; have hcc := (S.out.cap 0 rfl).1; have hc1 : nx ≤ cc := (by omega); have hc2 : (nx : Int) ≤ (cc : Int) := (by omega))
              | (refine wpList_growW (by rfl) _ _ rfl S.out 1 rfl rfl _ [167, 168] rfl (S.out.rb 0 rfl Y2) (nx + 2) (by rfl) (by omega) (by omega) ?_; rintro ca cc w' hS; simp only [List.set_cons_zero, List.set_cons_succ] at hS; replace S := hid hS; clear hS; have hcc := (S.out.cap 1 rfl).1; have hc1 : nx ≤ cc := (by omega); have hc2 : (nx : Int) ≤ (cc : Int) := (by omega)))
            | ((with_reducible show wpList _ _ _ (⟨_, .load _ _, _, _, _, _⟩ :: _) _ _); first | (refine wpList_get_pk (by rfl) _ _ rfl S.out _ _ rfl 2 _ rfl _ rfl (by rfl) (by first | rfl | assumption) (by first | rfl | assumption) ?_) | (refine wpList_get_pk (by rfl) _ _ rfl S.out _ _ rfl 3 _ rfl _ rfl (by rfl) (by first | rfl | assumption) (by first | rfl | assumption) ?_) | (refine wpList_get_pk (by rfl) _ _ rfl S.out _ _ rfl 4 _ rfl _ rfl (by rfl) (by first | rfl | assumption) (by first | rfl | assumption) ?_))
            | ((with_reducible show wpList _ _ _ (⟨_, .store _ _ _, _, _, _, _⟩ :: _) _ _); first | (refine wpList_put_pk (by rfl) _ _ _ rfl rfl S.out _ _ rfl 4 _ rfl _ rfl _ rfl (by rfl) (by first | rfl | assumption) (by first | rfl | assumption) ?_; intro w' hS; simp only [List.set] at hS; replace S := hid hS; clear hS)))
        | (go_at_call 12; refine (OX.out _ _ (PX.out.below S.out.bel)).mono ?_; rintro en w' ⟨sz, cz, rfl, hS⟩; replace hS := S.out.call hS; simp only [List.cons_append, List.nil_append] at hS; replace S := hid hS; clear hS)))
      | ((with_reducible show qEnd _ _ _ _ (World.alloc _ (.cells _ 5))); refine (fun (h : ∀ w2, w2 = World.alloc _ _ → qEnd _ _ .normal _ w2) => h _ rfl) ?_; intro w' hw2; (first | (replace S := hid (S.out.lit (l := [165, 166]) (n := 2) hw2 rfl rfl (by decide))) | (replace S := hid (S.out.lit (l := [167, 168]) (n := 2) hw2 rfl rfl (by decide)))); clear hw2)
      | ((with_reducible show qEnd _ _ _ _ _); refine qEnd_done S.out.nil ?_; (try simp only [Act.put, List.setIfInBounds_toArray, List.set_cons_zero, List.set_cons_succ]))
      | ((with_reducible show wpT _ _ _ _ _ _ _); refine wpT_done ?_; go_simp; go_step; go_meet))
    all_goals refine ⟨rfl, ca, cc, ?_⟩; have hS := S.out; first | (have hq := hS.cap 0 rfl; clear hq; (first | (refine hS.sub ?_; ((repeat (first | exact List.Sublist.refl _ | exact List.nil_sublist _ | apply List.Sublist.cons_cons | apply List.Sublist.cons)); done))))
  case rest =>
  obtain ⟨rfl, sx, cx, hS⟩ := hcut
  replace S := hid hS
  clear hS
  go_wp2_with (first
    | go_skip
    | ((with_reducible show wpList _ _ _ _ _ _); first
        | ((with_reducible show wpList _ _ _ (⟨_, .load 30 _, _, _, _, _⟩ :: _) _ _); refine wpList_getW (by rfl) _ rfl S.out _ rfl 3 _ rfl L1 L2 ?_)
        | ((with_reducible show wpList _ _ _ (⟨_, .store _ _ _, _, _, _, _⟩ :: _) _ _); refine wpList_putW (by rfl) _ _ rfl rfl S.out _ rfl 2 _ rfl _ rfl L1 L2 (by first | rfl | assumption) (by first | rfl | assumption) rfl rfl ?_; intro w' hS; simp only [List.set] at hS; replace S := hid hS; clear hS)))
  refine post_pk1 Tryd.results17 rfl _ _ rfl (S.out.pk 2 rfl) L1 L2 ?_
  exact P.out _ so co sx cx (S.out.sub (by repeat (first | exact List.Sublist.refl _ | exact List.nil_sublist _ | apply List.Sublist.cons_cons | apply List.Sublist.cons)))
set_option maxHeartbeats 8000000 in
set_option maxRecDepth 20000 in
theorem kept_any (p : Pk) (lo ld : List Int) (no nx : Nat) (so sx : Option Go.Addr) (co cx : Nat) (w : World) (h : Pin w p lo ld) (hno : lo.length = no) (hnx : ld.length = nx) (hl : no ≤ 140737488355328 ∧ nx ≤ 140737488355328) (h1 : Rb w (.slice so (no + 2) co) (lo ++ [165, 166])) (h2 : Rb w (.slice sx (nx + 2) cx) (ld ++ [167, 168])) :
    Calls Tryd.prog 24 #[.agg (pkC (pkO p (.slice so no co) (.slice sx nx cx))), .agg (pkC p)] w (APost w (.bool true)) := by
  have OO := hid (fun W v (hv : Rb W v lo) => (show Calls Tryd.prog 12 #[v] W (Own1 lo no W) from by have := ownB_any v lo W hv (by omega); rwa [hno] at this))
  have OX := hid (fun W v (hv : Rb W v ld) => (show Calls Tryd.prog 12 #[v] W (Own1 ld nx W) from by have := ownB_any v ld W hv (by omega); rwa [hnx] at this))
  have L1 := h.pk.src.len
  have L2 := h.pk.dst.len
  have PO := hid h.oR
  have PX := hid h.xR
  have R1 := hid h1
  have R2 := hid h2
  have YO : Byt (lo ++ [165, 166]) := h1.byt
  have YX : Byt (ld ++ [167, 168]) := h2.byt
  have Y1 : Byt [165, 166] := by intro x hx; simp at hx; omega
  have Y2 : Byt [167, 168] := by intro x hx; simp at hx; omega
  have F1 := hid (show ∀ W, Below w.heap.size w W → Rb W (.slice so no co) lo from fun W hW => by
    have := (h1.below hW).front no (by simp; omega)
    rwa [show List.take no (lo ++ [165, 166]) = lo by rw [← hno]; simp] at this)
  have F2 := hid (show ∀ W, Below w.heap.size w W → Rb W (.slice sx nx cx) ld from fun W hW => by
    have := (h2.below hW).front nx (by simp; omega)
    rwa [show List.take nx (ld ++ [167, 168]) = ld by rw [← hnx]; simp] at this)
  have SB := hid (fun W v u (m : List Int) (h1 : Rb W v m) (h2 : Rb W u m) => (show Calls Tryd.prog 16 #[v, u] W (SameP W true) from by have := sameB_any v u m m W h1 h2; rwa [decide_eq_true rfl] at this))
  have SP := hid (fun W (hW : Below w.heap.size w W) => (show Calls Tryd.prog 15 #[.agg (pkC (pkO p (.slice so no co) (.slice sx nx cx))), .agg (pkC p)] W (APost W (.bool true)) from by
    have := sameP_any (pkO p (.slice so no co) (.slice sx nx cx)) p lo lo ld ld W ⟨h.pk.src, h.pk.dst, h.pk.id0, h.pk.id1, rfl, rfl⟩ h.pk (F1.out W hW) (h.oR.below hW) (F2.out W hW) (h.xR.below hW)
    rwa [sameK_refl] at this))
  obtain ⟨a', c', e1, ho1, hom1, _⟩ := h1.open
  simp only [Value.slice.injEq] at e1
  obtain ⟨rfl, -, rfl⟩ := e1
  obtain ⟨a', c', e1, hx1, hxm1, _⟩ := h2.open
  simp only [Value.slice.injEq] at e1
  obtain ⟨rfl, -, rfl⟩ := e1
  simp only [List.length_append, List.length_cons, List.length_nil, hno, hnx] at ho1 hx1
  obtain ⟨oa, oc, eo, hoc, hom, _⟩ := h.oR.open
  obtain ⟨xa, xc, ex, hxc, hxm, _⟩ := h.xR.open
  unfold maxLen at hom hxm hom1 hxm1
  rw [hno] at eo hoc
  rw [hnx] at ex hxc
  have P := hid (fun en w' (h1 : en = .returned (.bool true)) (h2 : Sp w w' []) => show APost w (.bool true) en w' from ⟨h1, h2.bel⟩)
  have S : Hid (Sp w ((w.alloc (.cells (pkC (pkO p (.slice so no co) (.slice sx nx cx))) 30)).alloc (.cells (pkC p) 30)) [.blk (w.heap.size + 1) (pkC p) 30, .blk w.heap.size (pkC (pkO p (.slice so no co) (.slice sx nx cx))) 30]) := hid (Sp.in2 ..)
  obtain ⟨V, TOS, Flow, sV, sB, dV, dB, Proto, TTL, ID, DF, More, Frag, Off, ov, xv⟩ := p
  simp only at *
  subst eo ex
  obtain ⟨hl1, hl2⟩ := hl
  have K1 := hid (fun W (hW : Sp w W [.blk (w.heap.size + 1) (pkC ⟨V, TOS, Flow, sV, sB, dV, dB, Proto, TTL, ID, DF, More, Frag, Off, .slice oa no oc, .slice xa nx xc⟩) 30, .blk w.heap.size (pkC (pkO ⟨V, TOS, Flow, sV, sB, dV, dB, Proto, TTL, ID, DF, More, Frag, Off, .slice oa no oc, .slice xa nx xc⟩ (.slice so no co) (.slice sx nx cx))) 30]) =>
    (show (W.cell? ⟨w.heap.size + 1, 44, none⟩ = some (.slice oa no oc) ∧ W.cell? ⟨w.heap.size + 1, 45, none⟩ = some (.slice xa nx xc)) ∧ (W.cell? ⟨w.heap.size, 44, none⟩ = some (.slice so no co) ∧ W.cell? ⟨w.heap.size, 45, none⟩ = some (.slice sx nx cx)) from
      ⟨⟨((hW.pk 0 rfl).cells L1 L2).c44, ((hW.pk 0 rfl).cells L1 L2).c45⟩, ⟨((hW.pk 1 rfl).cells L1 L2).c44, ((hW.pk 1 rfl).cells L1 L2).c45⟩⟩))
  have w2 : IntKind.i64.wrap ((no : Int) + 2) = ((no + 2 : Nat) : Int) := by rw [IntWalk.i64_in _ (by omega)]; omega
  have w3 : IntKind.i64.wrap ((nx : Int) + 2) = ((nx + 2 : Nat) : Int) := by rw [IntWalk.i64_in _ (by omega)]; omega
  have i1 : ((no + 2 : Nat) : Int) ≤ (co : Int) := by omega
  have i2 : ((nx + 2 : Nat) : Int) ≤ (cx : Int) := by omega
  clear h h1 h2 hno hnx
  go_enter Tryd.func24, Tryd.ntmps24
  go_upto_region 1 with fail
  generalize (w.alloc (.cells (pkC _) 30)).alloc (.cells (pkC _) 30) = w' at *
  generalize hb0 : w.heap.size = b at S K1 ⊢
  replace hb0 := hid hb0
  go_upto_region 3 with (first | go_skip | ((with_reducible show wpList _ _ _ _ _ _); ((with_reducible show wpList _ _ _ (⟨_, .load _ _, _, _, _, _⟩ :: _) _ _); refine wpList_get_pk (by rfl) _ _ rfl S.out _ _ rfl 0 _ rfl _ rfl (by rfl) (by first | rfl | assumption) (by first | rfl | assumption) ?_)))
  (try simp only [Act.put, List.setIfInBounds_toArray, List.set_cons_zero, List.set_cons_succ])
  go_cut [4] from 13 (fun v wc => v = .bool true ∧ Sp w wc [])
  case first =>
    refine wp_region_ord (.weak 0 (.weak 1 (.strong 2 (.weak 3 (.weak 4 (.weak 5 (.weak 6 (.weak 7 (.weak 8 (.weak 9 (.weak 10 (.two 11 12 (.strong 12 (.strong 13 (.strong 14 (.weak 15 (.weak 16 (.weak 17 (.weak 18 (.weak 19 (.weak 20 (.weak 21 (.weak 22 (.weak 23 (.two 24 25 (.strong 25 (.strong 26 (.strong 27 (.weak 28 (.weak 29 (.done)))))) (.strong 24 (.strong 26 (.strong 27 (.weak 28 (.weak 29 (.done))))))))))))))))))) (.strong 11 (.strong 13 (.strong 14 (.weak 15 (.weak 16 (.weak 17 (.weak 18 (.weak 19 (.weak 20 (.weak 21 (.weak 22 (.weak 23 (.two 24 25 (.strong 25 (.strong 26 (.strong 27 (.weak 28 (.weak 29 (.done)))))) (.strong 24 (.strong 26 (.strong 27 (.weak 28 (.weak 29 (.done))))))))))))))))))))))))))))))) (fun W => Sp w W [.blk (b + 1) (pkC ⟨V, TOS, Flow, sV, sB, dV, dB, Proto, TTL, ID, DF, More, Frag, Off, .slice oa no oc, .slice xa nx xc⟩) 30, .blk b (pkC (pkO ⟨V, TOS, Flow, sV, sB, dV, dB, Proto, TTL, ID, DF, More, Frag, Off, .slice oa no oc, .slice xa nx xc⟩ (.slice so no co) (.slice sx nx cx))) 30]) (by kernel_rfl) (by kernel_rfl) (fun c a d v w h => by cases d <;> exact h) ?_ ?_
    · exact (S.out.same (Same.drew _))
    replace S := hid (S.out.same (Same.drew w'))
    generalize w'.drew = w' at *
    simp only [Ord.pick, List.getElem?_cons_succ, List.getElem?_cons_zero]
    refine wpE_loadP (by rfl) _ rfl _ _ rfl (fun _ hS => hS.pk 1 rfl) L1 L2 ?_
    refine wpE_loadP (by rfl) _ rfl _ _ rfl (fun _ hS => hS.pk 0 rfl) L1 L2 ?_
    (try simp only [Act.put, List.setIfInBounds_toArray, List.set_cons_zero, List.set_cons_succ])
    repeat' (first
      | ((with_reducible show wpE _ _ _ _ _ _ _); (first | (refine wpE_weak (by rfl) ?_; apply Exists.intro; refine ⟨fun wS hS => ?_, ?_⟩; (focus (obtain ⟨⟨k1, k2⟩, k3, k4⟩ := K1.out _ hS; go_simp; (try with_reducible rfl); done)); simp only [Act.put, List.setIfInBounds_toArray, List.set_cons_zero, List.set_cons_succ]) | (refine wpE_pass (by rfl) ?_; simp only [Act.put, List.setIfInBounds_toArray, List.set_cons_zero, List.set_cons_succ])))
      | ((with_reducible show wpE _ _ _ _ _ _ _); refine wpE_front (by rfl) _ _ rfl _ _ _ rfl _ _ rfl (no + 2) (by omega) (by omega) ?_; (try simp only [Act.put, List.setIfInBounds_toArray, List.set_cons_zero, List.set_cons_succ]))
      | ((with_reducible show wpE _ _ _ _ _ _ _); refine wpE_front (by rfl) _ _ rfl _ _ _ rfl _ _ rfl (nx + 2) (by omega) (by omega) ?_; (try simp only [Act.put, List.setIfInBounds_toArray, List.set_cons_zero, List.set_cons_succ]))
      | ((with_reducible show wpE _ _ _ _ _ _ _); refine wpE_strongL (by rfl) ?_)
      | ((with_reducible show wpE _ _ _ _ _ _ _); refine wpE_twoL (by rfl) (by rfl) ?_ ?_)
      | ((with_reducible show wpList _ _ _ _ _ _); go_wp2_with (first
        | go_skip
        | ((with_reducible show wpList _ _ _ _ _ _); (at_builtin; first
            | ((have M7 := M6); first
              | (refine wpList_growW (by rfl) _ _ rfl S.out 0 rfl rfl _ [167, 168] rfl (S.out.rb 1 rfl Y2) (nx + 2) (by rfl) (by omega) (by omega) ?_; rintro ca cc w' hS; simp only [List.set_cons_zero, List.set_cons_succ] at hS; replace S := hid ((hS.perm (List.Perm.swap _ _ _)).sub (List.sublist_cons_self _ _)); clear hS)
              | (refine wpList_growW (by rfl) _ _ rfl S.out 1 rfl rfl _ [167, 168] rfl (S.out.rb 0 rfl Y2) (nx + 2) (by rfl) (by omega) (by omega) ?_; rintro ca cc w' hS; simp only [List.set_cons_zero, List.set_cons_succ] at hS; replace S := hid (hS.sub (List.sublist_cons_self _ _)); clear hS))
            | (refine wpList_growW (by rfl) _ _ rfl S.out 0 rfl rfl _ [165, 166] rfl (S.out.rb 1 rfl Y1) (no + 2) (by rfl) (by omega) (by omega) ?_; have M6 := True.intro; rintro ca cc w' hS; simp only [List.set_cons_zero, List.set_cons_succ] at hS; replace S := hid ((hS.perm (List.Perm.swap _ _ _)).sub (List.sublist_cons_self _ _)); clear hS)
            | (refine wpList_growW (by rfl) _ _ rfl S.out 1 rfl rfl _ [165, 166] rfl (S.out.rb 0 rfl Y1) (no + 2) (by rfl) (by omega) (by omega) ?_; have M6 := True.intro; rintro ca cc w' hS; simp only [List.set_cons_zero, List.set_cons_succ] at hS; replace S := hid (hS.sub (List.sublist_cons_self _ _)); clear hS)))
        | (go_at_call 15; refine (SP.out _ S.out.bel).mono ?_; rintro en w' ⟨rfl, hb⟩; replace S := hid (S.out.keep hb); clear hb)
        | (go_at_call 16; first
            | ((have M9 := M8); refine (SB.out _ _ _ (ld ++ [167, 168]) (R2.out.below S.out.bel) (S.out.rb 0 rfl YX)).mono ?_; rintro en w'' ⟨rfl, rfl⟩)
            | (refine (SB.out _ _ _ (lo ++ [165, 166]) (R1.out.below S.out.bel) (S.out.rb 0 rfl YO)).mono ?_; have M8 := True.intro; rintro en w'' ⟨rfl, rfl⟩))
        | (go_at_call 12; first
            | ((have M3 := M2); refine (OX.out _ _ (PX.out.below S.out.bel)).mono ?_; rintro en w' ⟨sz, cz, rfl, hS⟩; replace hS := S.out.call hS; simp only [List.cons_append, List.nil_append] at hS; replace S := hid hS; clear hS)
            | (refine (OO.out _ _ (PO.out.below S.out.bel)).mono ?_; have M2 := True.intro; rintro en w' ⟨sz, cz, rfl, hS⟩; replace hS := S.out.call hS; simp only [List.cons_append, List.nil_append] at hS; replace S := hid hS; clear hS))))
      | ((with_reducible show qEnd _ _ _ _ (World.alloc _ (.cells _ 5))); refine (fun (h : ∀ w2, w2 = World.alloc _ _ → qEnd _ _ .normal _ w2) => h _ rfl) ?_; intro w' hw2; (first | (replace S := hid (S.out.lit (l := [165, 166]) (n := 2) hw2 rfl rfl (by decide))) | (replace S := hid (S.out.lit (l := [167, 168]) (n := 2) hw2 rfl rfl (by decide)))); clear hw2)
      | ((with_reducible show qEnd _ _ _ _ _); refine qEnd_done (S.out.sub (by repeat (first | exact List.Sublist.refl _ | exact List.nil_sublist _ | apply List.Sublist.cons_cons | apply List.Sublist.cons))) ?_; (try simp only [Act.put, List.setIfInBounds_toArray, List.set_cons_zero, List.set_cons_succ]))
      | ((with_reducible show wpE _ _ _ _ _ _ _); refine wpE_done ?_; go_simp; go_step; go_meet))
    all_goals exact ⟨rfl, S.out.nil⟩
  case rest =>
  obtain ⟨rfl, hS⟩ := hcut
  go_wp2_with fail
  go_ret
  exact P.out _ _ rfl hS
end Go.Proofs.YtaecfcaeopmiaaaDoor
