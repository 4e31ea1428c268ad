/-
  package ip6: Parse.
-/
import Derived.Test.YthbdnmmmibdgpaaIp6B
import Derived.Test.YthbdnmmmibdgpaaPkS
import Derived.Test.YthbdnmmmibdgpaaRdr
import Derived.Test.YthbdnmmmibdgpaaBits
namespace Go.Proofs.Ythbdnmmmibdgpaa
open Go.RowKit

/-- what is read of bytes -/
def fr6 (l : List Int) : Bool := decide (gt l 6 = 44)
def from6 (l : List Int) : Nat := if fr6 l = true then 48 else 40
def p6K (l : List Int) (v : Value) : Pk :=
  { V := 6, TOS := quadL l 0 / 1048576 % 256, Flow := quadL l 0 % 1048576, sV := 6, sB := (l.drop 8).take 16, dV := 6, dB := (l.drop 24).take 16, Proto := if fr6 l = true then gt l 40 else gt l 6, TTL := gt l 7,
    ID := if fr6 l = true then quadL l 44 else 0, DF := false, More := fr6 l && decide (wordL l 42 % 2 = 1), Frag := fr6 l, Off := if fr6 l = true then wordL l 42 / 8 * 8 else 0, ov := .slice none 0 0, xv := v }
def p6E (l : List Int) : Int :=
  if l.length < 40 then 20 else if gt l 0 / 16 ≠ 6 then 50 else if wordL l 4 ≠ (l.length : Int) - 40 then 51 else if gt l 6 = 44 ∧ l.length < 48 then 20
  else if gt l 6 = 44 ∧ (gt l 41 ≠ 0 ∨ wordL l 42 / 2 % 4 * 2 ≠ 0) then 50 else if right6 (p6K l (.slice none 0 0)) 0 (l.length - from6 l) = true then 0 else 50
def P6Post (e : Int) (l : List Int) (w : World) (en : Ending) (w' : World) : Prop :=
  Below w.heap.size w w' ∧ (e ≠ 0 → en = .returned (.tuple #[.agg (pkC pk0), .int .i64 e])) ∧
    (e = 0 → ∃ s c, en = .returned (.tuple #[.agg (pkC (p6K l (.slice s (l.length - from6 l) c))), .int .i64 0]) ∧ w'.ownsRow w.heap.size 5 1 (.slice s (l.length - from6 l) c) (l.drop (from6 l)).length (bts (l.drop (from6 l))))
theorem P6Post.err {e : Int} {l : List Int} {w w' : World} (he : e ≠ 0) (hb : Below w.heap.size w w') : P6Post e l w (.returned (.tuple #[.agg (pkC pk0), .int .i64 e])) w' := ⟨hb, fun _ => rfl, fun h => absurd h he⟩
theorem right6_ov (l : List Int) (v : Value) (n : Nat) : right6 (p6K l v) 0 n = right6 (p6K l (.slice none 0 0)) 0 n := rfl

theorem p6_right {l : List Int} {q : Pk} {n : Nat} {b : Bool} (hr : right6 q 0 n = b) (hq : q = p6K l q.xv) (hn : n = l.length - from6 l) : right6 (p6K l (.slice none 0 0)) 0 (l.length - from6 l) = b := by
  subst hn
  rw [← hr]
  exact (congrArg (fun z => right6 z 0 (l.length - from6 l)) hq).symm
theorem P6Post.ok {e : Int} {l : List Int} {w w' : World} {q : Pk} {s : Option Go.Addr} {n c k base : Nat} (he : e = 0) (hb : Below w.heap.size w w') (hq : q = p6K l q.xv) (hx : q.xv = .slice s n c) (hk : from6 l = k) (hn : n = l.length - k) (hO : OwnB base w' (.slice s n c) ((l.drop k).take n)) (hB : w.heap.size ≤ base) :
    P6Post e l w (.returned (.tuple #[.agg (pkC q), .int .i64 0])) w' := by
  subst hk
  subst hn
  refine ⟨hb, fun h => absurd he h, fun _ => ⟨s, c, ?_, ?_⟩⟩
  · rw [hq, hx]
  · have e1 : (l.drop (from6 l)).take (l.length - from6 l) = l.drop (from6 l) := List.take_of_length_le (by simp)
    rw [e1] at hO
    exact (hO.mono hB).own

theorem take16_len {l : List Int} {k : Nat} (h : k + 16 ≤ l.length) : ((l.drop k).take 16).length = 16 := by simp; omega
theorem take16_is {l : List Int} {k : Nat} (h : k + 16 ≤ l.length) (hb : Byt l) (V : Int) (h0 : -9223372036854775808 ≤ V) (h1 : V ≤ 9223372036854775807) : IsA V ((l.drop k).take 16) := ⟨take16_len h, (hb.drop k).take 16, h0, h1⟩
theorem take16_six {l : List Int} {k : Nat} (h : k + 16 ≤ l.length) (hb : Byt l) : IsA 6 ((l.drop k).take 16) := take16_is h hb 6 (by decide) (by decide)
/-- sixteen bytes of the call's own, as an array -/
theorem own16 {base : Nat} {w : World} {v : Value} {L : List Int} (h : OwnB base w v L) (hl : L.length = 16) : ∃ g c, v = .slice (some ⟨g, 0, none⟩) 16 c ∧ ∀ j, j < L.length → w.cell? ⟨g, 0 + j, none⟩ = some (.int .u8 (gt L j)) := by
  obtain ⟨g, c, hv, _, _, hc⟩ := h.open (by omega)
  rw [hl] at hv
  exact ⟨g, c, hv, fun j hj => by rw [Nat.zero_add]; exact (hc j hj).1⟩
theorem own_slice {base : Nat} {w : World} {v : Value} {L : List Int} {n : Nat} (h : OwnB base w v L) (hn : L.length = n) : ∃ a c, v = .slice a n c ∧ OwnB base w (.slice a n c) L := by
  obtain ⟨a, c, hv, _⟩ := own_shape h.own
  subst hv
  subst hn
  exact ⟨a, c, rfl, h⟩
theorem fr_bel {base top : Nat} {w w0 w' : World} (h : FrR base top w w') (h0 : Below w0.heap.size w0 w) (hb : w0.heap.size ≤ base) : Below w0.heap.size w0 w' := h0.trans (h.below hb h0.size)
theorem fr_blk {base top b : Nat} {w w' : World} {o : Obj} (h : FrR base top w w') (hA : w.heap[b]? = some o) (ho : b < base ∨ top ≤ b) : w'.heap[b]? = some o := (h.block (by have := (Array.getElem?_eq_some_iff.1 hA).1; exact this) ho).trans hA

abbrev pkOf {w : World} {b : Nat} {p : Pk} (_ : PkAt w b p) : Pk := p
theorem pk_alloc {w w2 : World} (hw : w2 = w.alloc (.cells #[.int .i64 0, .int .i64 0, .int .i64 0, .int .i64 0, .int .u8 0, .int .u8 0, .int .u8 0, .int .u8 0, .int .u8 0, .int .u8 0, .int .u8 0, .int .u8 0, .int .u8 0, .int .u8 0, .int .u8 0, .int .u8 0, .int .u8 0, .int .u8 0, .int .u8 0, .int .u8 0, .int .i64 0, .int .u8 0, .int .u8 0, .int .u8 0, .int .u8 0, .int .u8 0, .int .u8 0, .int .u8 0, .int .u8 0, .int .u8 0, .int .u8 0, .int .u8 0, .int .u8 0, .int .u8 0, .int .u8 0, .int .u8 0, .int .u8 0, .int .i64 0, .int .i64 0, .int .u32 0, .bool false, .bool false, .bool false, .int .i64 0, .slice none 0 0, .slice none 0 0] 28)) : PkAt w2 w.heap.size pk0 := by rw [hw]; exact heap_alloc_new w _
set_option maxHeartbeats 4000000 in
set_option maxRecDepth 20000 in
theorem parse6_any (bv : Value) (l : List Int) (w : World) (h : Rb w bv l) : Calls Try.prog 19 #[bv] w (P6Post (p6E l) l w) := by
  have HB := hid h
  have hbyt := h.byt
  obtain ⟨ad, cd, rfl, hcd, hmd, hz⟩ := h.open
  unfold maxLen at hmd
  obtain ⟨a1, bb, hzs⟩ := bx1 w (.cells #[.int .i64 0, .int .i64 0, .int .i64 0, .int .i64 0, .int .u8 0, .int .u8 0, .int .u8 0, .int .u8 0, .int .u8 0, .int .u8 0, .int .u8 0, .int .u8 0, .int .u8 0, .int .u8 0, .int .u8 0, .int .u8 0, .int .u8 0, .int .u8 0, .int .u8 0, .int .u8 0, .int .i64 0, .int .u8 0, .int .u8 0, .int .u8 0, .int .u8 0, .int .u8 0, .int .u8 0, .int .u8 0, .int .u8 0, .int .u8 0, .int .u8 0, .int .u8 0, .int .u8 0, .int .u8 0, .int .u8 0, .int .u8 0, .int .u8 0, .int .i64 0, .int .i64 0, .int .u32 0, .bool false, .bool false, .bool false, .int .i64 0, .slice none 0 0, .slice none 0 0] 28)
  have A0 := hid (show PkAt (w.alloc (.cells #[.int .i64 0, .int .i64 0, .int .i64 0, .int .i64 0, .int .u8 0, .int .u8 0, .int .u8 0, .int .u8 0, .int .u8 0, .int .u8 0, .int .u8 0, .int .u8 0, .int .u8 0, .int .u8 0, .int .u8 0, .int .u8 0, .int .u8 0, .int .u8 0, .int .u8 0, .int .u8 0, .int .i64 0, .int .u8 0, .int .u8 0, .int .u8 0, .int .u8 0, .int .u8 0, .int .u8 0, .int .u8 0, .int .u8 0, .int .u8 0, .int .u8 0, .int .u8 0, .int .u8 0, .int .u8 0, .int .u8 0, .int .u8 0, .int .u8 0, .int .i64 0, .int .i64 0, .int .u32 0, .bool false, .bool false, .bool false, .int .i64 0, .slice none 0 0, .slice none 0 0] 28)) w.heap.size pk0 from a1)
  have BW := hid bb
  obtain ⟨e, he⟩ : ∃ e, p6E l = e := ⟨_, rfl⟩
  rw [he]
  have EE := hid he.symm
  clear a1 bb hzs he
  by_cases h40 : l.length < 40
  · have F : Hid (e = 20) := hid (by rw [EE.out]; unfold p6E; rw [if_pos h40])
    have hd : decide ((l.length : Int) < 40) = true := by simp; omega
    clear EE h h40
    go_enter Try.func19, Try.ntmps19
    go_upto_region 1 with fail
    generalize (w.alloc (.cells #[.int .i64 0, .int .i64 0, .int .i64 0, .int .i64 0, .int .u8 0, .int .u8 0, .int .u8 0, .int .u8 0, .int .u8 0, .int .u8 0, .int .u8 0, .int .u8 0, .int .u8 0, .int .u8 0, .int .u8 0, .int .u8 0, .int .u8 0, .int .u8 0, .int .u8 0, .int .u8 0, .int .i64 0, .int .u8 0, .int .u8 0, .int .u8 0, .int .u8 0, .int .u8 0, .int .u8 0, .int .u8 0, .int .u8 0, .int .u8 0, .int .u8 0, .int .u8 0, .int .u8 0, .int .u8 0, .int .u8 0, .int .u8 0, .int .u8 0, .int .i64 0, .int .i64 0, .int .u32 0, .bool false, .bool false, .bool false, .int .i64 0, .slice none 0 0, .slice none 0 0] 28)) = w' at *
    go_wp2_with (first
      | go_skip
      | ((with_reducible show wpList _ _ _ _ _ _); refine wpList_store_pk (by rfl) _ _ rfl rfl _ pk0 pk0 rfl rfl A0.out rfl rfl rfl rfl rfl rfl ?_; intro w' hA hS; replace A0 := hid (show PkAt w' w.heap.size pk0 from hA); replace BW := hid (BW.out.trans (hS.below (Nat.le_refl _))); (try replace RD := hid (RD.out.stored hS (.inl (by have := LE.out; omega)))); (try replace PL := hid (show PkAt w' _ _ from (hS.block _ (by have := LE.out; have := RD.out.le; have := LP.out; omega)).trans PL.out)); clear hA hS))
    exact post_pk Try.results19 rfl _ pk0 _ rfl rfl A0.out rfl rfl (by rw [F.out]; exact P6Post.err (by decide) BW.out)
  · rcases hz with h0 | ⟨bk, off, rfl, hcell⟩
    · omega
    have hbk : bk < w.heap.size := World.block_lt_of_cell? _ _ (hcell 0 (by omega))
    have QF := hid (fun W (hW : Below w.heap.size w W) => (⟨(hW.cell hbk).trans (hcell 0 (by omega)), (hW.cell hbk).trans (hcell 4 (by omega)), (hW.cell hbk).trans (hcell 5 (by omega)), (hW.cell hbk).trans (hcell 6 (by omega)), HB.out.below hW⟩ : W.cell? ⟨bk, off + 0, none⟩ = some (.int .u8 (gt l 0)) ∧ W.cell? ⟨bk, off + 4, none⟩ = some (.int .u8 (gt l 4)) ∧ W.cell? ⟨bk, off + 5, none⟩ = some (.int .u8 (gt l 5)) ∧ W.cell? ⟨bk, off + 6, none⟩ = some (.int .u8 (gt l 6)) ∧ Rb W (.slice (some ⟨bk, off, none⟩) l.length cd) l))
    obtain ⟨q0, q4, q5, q6, HR⟩ := QF.out _ BW.out
    rw [Nat.add_zero] at q0
    replace HR := hid HR
    have hd : decide ((l.length : Int) < 40) = false := by simp; omega
    have har := run_arrayAt
    have g7 := hbyt.bd 7; have g40 := hbyt.bd 40; have g41 := hbyt.bd 41
    have g0 := hbyt.bd 0; have g4 := hbyt.bd 4; have g5 := hbyt.bd 5; have g6 := hbyt.bd 6
    have hq0 := quadL_bd hbyt 0
    have hq44 := quadL_bd hbyt 44
    have hw42 := wordL_bd hbyt 42
    have ho1 := i64_or_byte g4 g5
    have ha1 := u32_and255 (n := quadL l 0 / 1048576) (by omega) (by omega)
    have ha2 := u32_and20 (n := quadL l 0) (by omega) (by omega)
    have ha3 := i64_and6 (n := wordL l 42) (by omega) (by omega)
    have ha4 := i64_and1' (n := wordL l 42) (by omega) (by omega)
    have ha5 := i64_andNot7 (n := wordL l 42) (by omega) (by omega)
    have LL := hid (show 40 ≤ l.length by omega)
    have HW4 : Hid (wordL l 4 = 256 * gt l 4 + gt l 5) := hid rfl
    clear hcell h
    go_enter Try.func19, Try.ntmps19
    go_upto_region 1 with fail
    generalize (w.alloc (.cells #[.int .i64 0, .int .i64 0, .int .i64 0, .int .i64 0, .int .u8 0, .int .u8 0, .int .u8 0, .int .u8 0, .int .u8 0, .int .u8 0, .int .u8 0, .int .u8 0, .int .u8 0, .int .u8 0, .int .u8 0, .int .u8 0, .int .u8 0, .int .u8 0, .int .u8 0, .int .u8 0, .int .i64 0, .int .u8 0, .int .u8 0, .int .u8 0, .int .u8 0, .int .u8 0, .int .u8 0, .int .u8 0, .int .u8 0, .int .u8 0, .int .u8 0, .int .u8 0, .int .u8 0, .int .u8 0, .int .u8 0, .int .u8 0, .int .u8 0, .int .i64 0, .int .i64 0, .int .u32 0, .bool false, .bool false, .bool false, .int .i64 0, .slice none 0 0, .slice none 0 0] 28)) = w' at *
    go_wp2_with (first
      | go_skip
      | ((with_reducible show Code.wp _ (Code.region 5 _ true) _ _ _)
         go_quiet (fail)
         obtain ⟨w3, hw3⟩ : ∃ w3, w3 = w'.drewN nq := ⟨_, rfl⟩
         rw [← hw3]
         have hb : Below w'.heap.size w' w3 := by rw [hw3]; exact (Same.drewN _ _).below _
         have w' := w3
         replace A0 := hid (show PkAt w3 _ _ from blk_bel A0.out hb)
         replace BW := hid (BW.out.trans (hb.mono BW.out.size))
         clear hb hw3 q0 q4 q5 q6 HR
         obtain ⟨q0, q4, q5, q6, HR⟩ := QF.out _ BW.out
         rw [Nat.add_zero] at q0
         replace HR := hid HR)
      | ((with_reducible show wpList _ _ _ (⟨none, .store 28 (.tmp 2) (.tmp 120), _, _, _, _⟩ :: _) _ _)
         have hP := PL.out
         have h16a := take16_len (l := l) (k := 8) (by have := LL.out; omega)
         have h16b := take16_len (l := l) (k := 24) (by have := LL.out; omega)
         refine wpList_store_pk (by rfl) _ _ rfl rfl _ (pkOf hP) pk0 rfl rfl A0.out ?_ ?_ ?_ ?_ ?_ ?_ ?_
         · exact h16a
         · exact h16b
         · rfl
         · rfl
         · rfl
         · rfl
         intro w' hA hS
         have AF := hid hA
         replace OX := hid (OwnB.mk (hS.own (by have := LX.out; have := LE.out; have := RD.out.le; have := LP.out; omega) OX.out.own) (by rw [hS.size]; exact OX.out.le))
         replace BW := hid (BW.out.trans (hS.below (Nat.le_refl _)))
         clear hA hS)
      | ((with_reducible show wpList _ _ _ _ _ _)
         first
         | ((with_reducible show wpList _ _ _ (⟨_, .binOp _ _ _ _ _, _, _, _, _⟩ :: _) _ _); refine wpList_cmp (by rfl) _ (by rfl) _ _ _ _ rfl _ (by go_simp; exact rfl) ?_ ?_ <;> (intro hc; (try simp only [decide_eq_true_eq, decide_eq_false_iff_not, Int.not_lt] at hc); (try (simp at hc; done)); go_prune))
         | (refine wpList_load_b16 (by rfl) _ rfl _ 0 _ rfl C16.out (take16_len (by omega)) ?_)
         | (refine wpList_build_addr (by rfl) _ _ rfl 6 _ rfl rfl (take16_len (by omega)) ?_)
         | (refine wpList_store_src (by rfl) _ _ rfl rfl _ 6 _ rfl rfl (take16_len (by omega)) _ PL.out (by first | rfl | exact take16_len (by omega)) (by first | rfl | exact take16_len (by omega)) ?_; intro w' hA hS; replace PL := hid hA; replace A0 := hid (show PkAt w' _ _ from (hS.block _ (by have := LE.out; have := RD.out.le; have := LP.out; omega)).trans A0.out); replace BW := hid (BW.out.trans (hS.below (by have := LE.out; have := RD.out.le; have := LP.out; omega))); replace RD := hid (RD.out.stored hS (.inr LP.out)); clear hA hS)
         | (refine wpList_store_dst (by rfl) _ _ rfl rfl _ 6 _ rfl rfl (take16_len (by omega)) _ PL.out (by first | rfl | exact take16_len (by omega)) (by first | rfl | exact take16_len (by omega)) ?_; intro w' hA hS; replace PL := hid hA; replace A0 := hid (show PkAt w' _ _ from (hS.block _ (by have := LE.out; have := RD.out.le; have := LP.out; omega)).trans A0.out); replace BW := hid (BW.out.trans (hS.below (by have := LE.out; have := RD.out.le; have := LP.out; omega))); replace RD := hid (RD.out.stored hS (.inr LP.out)); clear hA hS; have q37 := (PL.out.cells (take16_len (by omega)) (take16_len (by omega))).c37)
         | (refine wpList_store_Frag (by rfl) _ _ rfl rfl _ _ rfl rfl _ PL.out (take16_len (by omega)) (take16_len (by omega)) ?_; intro w' hA hS; replace PL := hid hA; replace A0 := hid (show PkAt w' _ _ from (hS.block _ (by have := LE.out; have := RD.out.le; have := LP.out; omega)).trans A0.out); replace BW := hid (BW.out.trans (hS.below (by have := LE.out; have := RD.out.le; have := LP.out; omega))); replace RD := hid (RD.out.stored hS (.inr LP.out)); clear hA hS)
         | (refine wpList_store_Proto (by rfl) _ _ rfl rfl _ _ rfl rfl _ PL.out (take16_len (by omega)) (take16_len (by omega)) ?_; intro w' hA hS; replace PL := hid hA; replace A0 := hid (show PkAt w' _ _ from (hS.block _ (by have := LE.out; have := RD.out.le; have := LP.out; omega)).trans A0.out); replace BW := hid (BW.out.trans (hS.below (by have := LE.out; have := RD.out.le; have := LP.out; omega))); replace RD := hid (RD.out.stored hS (.inr LP.out)); clear hA hS)
         | (refine wpList_store_ID (by rfl) _ _ rfl rfl _ _ rfl rfl _ PL.out (take16_len (by omega)) (take16_len (by omega)) ?_; intro w' hA hS; replace PL := hid hA; replace A0 := hid (show PkAt w' _ _ from (hS.block _ (by have := LE.out; have := RD.out.le; have := LP.out; omega)).trans A0.out); replace BW := hid (BW.out.trans (hS.below (by have := LE.out; have := RD.out.le; have := LP.out; omega))); replace RD := hid (RD.out.stored hS (.inr LP.out)); clear hA hS)
         | (refine wpList_store_Off (by rfl) _ _ rfl rfl _ _ rfl rfl _ PL.out (take16_len (by omega)) (take16_len (by omega)) ?_; intro w' hA hS; replace PL := hid hA; replace A0 := hid (show PkAt w' _ _ from (hS.block _ (by have := LE.out; have := RD.out.le; have := LP.out; omega)).trans A0.out); replace BW := hid (BW.out.trans (hS.below (by have := LE.out; have := RD.out.le; have := LP.out; omega))); replace RD := hid (RD.out.stored hS (.inr LP.out)); clear hA hS)
         | (refine wpList_store_More (by rfl) _ _ rfl rfl _ _ rfl rfl _ PL.out (take16_len (by omega)) (take16_len (by omega)) ?_; intro w' hA hS; replace PL := hid hA; replace A0 := hid (show PkAt w' _ _ from (hS.block _ (by have := LE.out; have := RD.out.le; have := LP.out; omega)).trans A0.out); replace BW := hid (BW.out.trans (hS.below (by have := LE.out; have := RD.out.le; have := LP.out; omega))); replace RD := hid (RD.out.stored hS (.inr LP.out)); clear hA hS)
         | (refine wpList_store_xv (by rfl) _ _ rfl rfl _ _ _ _ rfl rfl _ PL.out (take16_len (by omega)) (take16_len (by omega)) ?_; intro w' hA hS; replace OX := hid (OwnB.mk (hS.own LX.out OX.out.own) (by rw [hS.size]; exact OX.out.le)); replace PL := hid hA; replace A0 := hid (show PkAt w' _ _ from (hS.block _ (by have := LE.out; have := RD.out.le; have := LP.out; omega)).trans A0.out); replace BW := hid (BW.out.trans (hS.below (by have := LE.out; have := RD.out.le; have := LP.out; omega))); replace RD := hid (RD.out.stored hS (.inr LP.out)); clear hA hS)
         | (refine wpList_load_pk (by rfl) _ rfl _ _ rfl PL.out (take16_len (by omega)) (take16_len (by omega)) ?_)
         | (refine wpList_store_pk (by rfl) _ _ rfl rfl _ pk0 pk0 rfl rfl A0.out rfl rfl rfl rfl rfl rfl ?_; intro w' hA hS; replace A0 := hid (show PkAt w' w.heap.size pk0 from hA); replace BW := hid (BW.out.trans (hS.below (Nat.le_refl _))); (try replace RD := hid (RD.out.stored hS (.inl (by have := LE.out; omega)))); (try replace PL := hid (show PkAt w' _ _ from (hS.block _ (by have := LE.out; have := RD.out.le; have := LP.out; omega)).trans PL.out)); clear hA hS))
      | ((with_reducible show wpList _ _ _ (⟨none, .store 28 (.tmp 6) _, _, _, _, _⟩ :: _) _ (World.alloc w' _)); refine wpList_world fun w' hw2 => ?_; have PL := hid (pk_alloc hw2); have LP := hid RD.out.tp; have hb := below_allocW hw2 (Nat.le_refl _) (Below.refl _ _); replace A0 := hid (show PkAt w' _ _ from blk_bel A0.out hb); replace BW := hid (BW.out.trans (hb.mono BW.out.size)); replace RD := hid (RD.out.below hb); clear hw2 hb)
      | ((with_reducible show wpList _ _ _ (⟨none, .store 28 (.tmp 6) _, _, _, _, _⟩ :: _) _ _); refine wpList_store_pk (by rfl) _ _ rfl rfl _ { pk0 with V := 6, TOS := quadL l 0 / 1048576 % 256, Flow := quadL l 0 % 1048576, Proto := gt l 6, TTL := gt l 7 } pk0 rfl rfl PL.out rfl rfl rfl rfl rfl rfl ?_; intro w' hA hS; replace PL := hid hA; replace A0 := hid (show PkAt w' _ _ from (hS.block _ (by have := LE.out; have := RD.out.le; have := LP.out; omega)).trans A0.out); replace BW := hid (BW.out.trans (hS.below (by have := LE.out; have := RD.out.le; have := LP.out; omega))); replace RD := hid (RD.out.stored hS (.inr LP.out)); clear hA hS)
      | (go_at_call 35; have hlen : l.length ≤ 65575 := (by simp only [bne_eq_false_iff_eq] at *; omega); refine (rnewP _ l _ HR.out (by omega)).mono ?_; rintro en w' ⟨rb, rfl, hR, hb⟩; have RD := hid hR; have LE := hid (show w.heap.size + 1 ≤ _ from (Array.getElem?_eq_some_iff.1 A0.out).1); replace A0 := hid (show PkAt w' _ _ from blk_bel A0.out hb); replace BW := hid (BW.out.trans (hb.mono BW.out.size)); clear hR hb q0 q4 q5 q6 HR)
      | (go_at_call 39
         first
         | (have hk := (show RdP _ _ w' rb l 8 from RD.out); refine (rbP _ _ rb l 8 16 _ _ hk rfl (by omega)).mono ?_; clear hk; rintro en w' ⟨v, rfl, hO, hR, hF⟩; simp only [Nat.reduceAdd] at hR; obtain ⟨g, c, rfl, hc⟩ := own16 hO (take16_len (by omega)); have C16 := hid hc; replace RD := hid hR; replace A0 := hid (show PkAt w' _ _ from fr_blk hF A0.out (.inl (by have := LE.out; omega))); replace PL := hid (show PkAt w' _ _ from fr_blk hF PL.out (.inr LP.out)); replace BW := hid (fr_bel hF BW.out (by have := LE.out; omega)); clear hR hF hO hc)
         | (have hk := (show RdP _ _ w' rb l 24 from RD.out); refine (rbP _ _ rb l 24 16 _ _ hk rfl (by omega)).mono ?_; clear hk; rintro en w' ⟨v, rfl, hO, hR, hF⟩; simp only [Nat.reduceAdd] at hR; obtain ⟨g, c, rfl, hc⟩ := own16 hO (take16_len (by omega)); have C16 := hid hc; replace RD := hid hR; replace A0 := hid (show PkAt w' _ _ from fr_blk hF A0.out (.inl (by have := LE.out; omega))); replace PL := hid (show PkAt w' _ _ from fr_blk hF PL.out (.inr LP.out)); replace BW := hid (fr_bel hF BW.out (by have := LE.out; omega)); clear hR hF hO hc)
         | (have LX := hid PL.out.lt; refine (rbP _ _ rb l _ _ _ _ RD.out rfl (by omega)).mono ?_; rintro en w' ⟨v, rfl, hO, hR, hF⟩; obtain ⟨sa, sc, rfl, hO⟩ := own_slice hO (by rw [List.length_take, List.length_drop, Nat.min_self]); have OX := hid hO; replace RD := hid hR; replace A0 := hid (show PkAt w' _ _ from fr_blk hF A0.out (.inl (by have := LE.out; omega))); replace PL := hid (show PkAt w' _ _ from fr_blk hF PL.out (.inr LP.out)); replace BW := hid (fr_bel hF BW.out (by have := LE.out; omega)); clear hR hF hO))
      | (go_at_call 15; refine (right6_any _ [] _ _ ⟨⟨take16_six (by omega) hbyt, take16_six (by omega) hbyt, by first | exact hq44.1 | exact Int.le_refl 0, by first | exact hq44.2 | (show (0 : Int) ≤ 4294967295; decide), rfl, rfl⟩, Rb.nil _, OX.out.rb ((hbyt.drop _).take _)⟩).mono ?_; rintro en w' ⟨rfl, hb⟩; replace A0 := hid (show PkAt w' _ _ from blk_bel A0.out hb); replace PL := hid (show PkAt w' _ _ from blk_bel PL.out hb); replace RD := hid (RD.out.below hb); replace OX := hid (OX.out.below hb); replace BW := hid (BW.out.trans (hb.mono BW.out.size)); clear hb; rw [List.length_take, List.length_drop, Nat.min_self]; generalize hrr : right6 _ _ _ = rr; have HRR := hid hrr; clear hrr; cases rr)
      | (go_at_call 40; refine (rleftP _ _ rb l _ _ RD.out).mono ?_; rintro en w'' ⟨rfl, rfl⟩)
      | (go_at_call 36; refine (r32P _ _ rb l _ _ RD.out (by omega)).mono ?_; rintro en w' ⟨rfl, hR, hF, hs⟩; simp only [Nat.reduceAdd] at hR; replace RD := hid hR; replace A0 := hid (show PkAt w' _ _ from fr_blk hF A0.out (.inl (by have := LE.out; omega))); (try replace PL := hid (show PkAt w' _ _ from fr_blk hF PL.out (.inr LP.out))); replace BW := hid (fr_bel hF BW.out (by have := LE.out; omega)); clear hR hF hs)
      | (go_at_call 37; refine (r16P _ _ rb l _ _ RD.out (by omega)).mono ?_; rintro en w' ⟨rfl, hR, hF, hs⟩; simp only [Nat.reduceAdd] at hR; replace RD := hid hR; replace A0 := hid (show PkAt w' _ _ from fr_blk hF A0.out (.inl (by have := LE.out; omega))); (try replace PL := hid (show PkAt w' _ _ from fr_blk hF PL.out (.inr LP.out))); replace BW := hid (fr_bel hF BW.out (by have := LE.out; omega)); clear hR hF hs)
      | (go_at_call 38; refine (r8P _ _ rb l _ _ RD.out (by omega)).mono ?_; rintro en w' ⟨rfl, hR, hF, hs⟩; simp only [Nat.reduceAdd] at hR; replace RD := hid hR; replace A0 := hid (show PkAt w' _ _ from fr_blk hF A0.out (.inl (by have := LE.out; omega))); (try replace PL := hid (show PkAt w' _ _ from fr_blk hF PL.out (.inr LP.out))); replace BW := hid (fr_bel hF BW.out (by have := LE.out; omega)); clear hR hF hs))
    all_goals
      have hEE := EE.out
      clear EE QF
      unfold p6E at hEE
    all_goals first
      | (have h16a := take16_len (l := l) (k := 8) (by have := LL.out; omega)
         have h16b := take16_len (l := l) (k := 24) (by have := LL.out; omega)
         refine post_pk Try.results19 rfl _ _ _ rfl rfl AF.out h16a h16b ?_
         clear A0 PL)
      | (refine post_pk Try.results19 rfl _ pk0 _ rfl rfl A0.out rfl rfl ?_
         clear A0)
    all_goals
      have hl := LL.out
      have hw := HW4.out
      simp only [bne_iff_ne, bne_eq_false_iff_eq, beq_iff_eq, beq_eq_false_iff_ne, ne_eq] at *
    all_goals first
      | (have hf : fr6 l = true := (by unfold fr6; simp only [decide_eq_true_eq]; omega)
         have hk : from6 l = 48 := (by unfold from6; rw [if_pos hf])
         first
         | (have hm : wordL l 42 % 2 = 1 := (by omega)
            have hr := p6_right (l := l) HRR.out (by simp [p6K, hf, hm, pk0]) (by rw [hk]))
         | (have hm : ¬ wordL l 42 % 2 = 1 := (by omega)
            have hr := p6_right (l := l) HRR.out (by simp [p6K, hf, hm, pk0]) (by rw [hk]))
         | skip)
      | (have hf : fr6 l = false := (by unfold fr6; simp only [decide_eq_false_iff_not]; omega)
         have hk : from6 l = 40 := (by unfold from6; rw [if_neg (by rw [hf]; decide)])
         first
         | (have hr := p6_right (l := l) HRR.out (by simp [p6K, hf, pk0]) (by rw [hk]))
         | skip)
      | skip
    all_goals first
      | (have he : e = 50 := (by rw [hEE]; repeat' split
                                 all_goals first | rfl | omega | (exfalso; simp_all; done))
         show P6Post e l w (.returned (.tuple #[.agg (pkC pk0), .int .i64 50])) _
         rw [he]
         exact P6Post.err (by decide) BW.out)
      | (have he : e = 51 := (by rw [hEE]; repeat' split
                                 all_goals first | rfl | omega | (exfalso; simp_all; done))
         show P6Post e l w (.returned (.tuple #[.agg (pkC pk0), .int .i64 51])) _
         rw [he]
         exact P6Post.err (by decide) BW.out)
      | (have he : e = 20 := (by rw [hEE]; repeat' split
                                 all_goals first | rfl | omega | (exfalso; simp_all; done))
         show P6Post e l w (.returned (.tuple #[.agg (pkC pk0), .int .i64 20])) _
         rw [he]
         exact P6Post.err (by decide) BW.out)
      | (have he : e = 0 := (by rw [hEE]; repeat' split
                                all_goals first | rfl | omega | (exfalso; simp_all; done))
         first
         | (have hm : wordL l 42 % 2 = 1 := (by omega)
            exact P6Post.ok he BW.out (by simp [p6K, hf, hm, pk0]) rfl hk rfl OX.out (by have := LX.out; have := LE.out; have := RD.out.le; have := LP.out; omega))
         | (have hm : ¬ wordL l 42 % 2 = 1 := (by omega)
            exact P6Post.ok he BW.out (by simp [p6K, hf, hm, pk0]) rfl hk rfl OX.out (by have := LX.out; have := LE.out; have := RD.out.le; have := LP.out; omega))
         | exact P6Post.ok he BW.out (by simp [p6K, hf, pk0]) rfl hk rfl OX.out (by have := LX.out; have := LE.out; have := RD.out.le; have := LP.out; omega))
end Go.Proofs.Ythbdnmmmibdgpaa
