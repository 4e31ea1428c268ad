/-
  What a call has made so far, in one word: blocks and rows of its own, each apart from the others; what was there before is as it was.
-/
import Derived.Test.YtaecfcaeopmiaaaDoorPkS
namespace Go.Proofs.YtaecfcaeopmiaaaDoor
open Go.RowKit

/-- a thing of the call's own: a block with its cells, a row that a slice owns, or blocks in a row and a word about them that holds as long as these are as they are (a reader's) -/
inductive Res where
  | blk (b : Nat) (cs : Array Value) (t : TypeId)
  | row (v : Value) (t : TypeId) (sz n : Nat) (xs : List Value)
  | zone (base top : Nat) (Φ : World → Prop)
def Res.foot : Res → Nat → Prop
  | .blk b _ _ => fun k => k = b
  | .row v _ _ _ _ => fun k => v.ownBlock = some k
  | .zone base top _ => fun k => base ≤ k ∧ k < top
def Res.ok (B : Nat) (w : World) : Res → Prop
  | .blk b cs t => B ≤ b ∧ w.heap[b]? = some (.cells cs t (0, 0))
  | .row v t sz n xs => w.ownsRow B t sz v n xs
  | .zone base top Φ => (B ≤ base ∧ top ≤ w.heap.size) ∧ Φ w ∧ ∀ w1 w2 : World, (∀ k, base ≤ k → k < top → w2.heap[k]? = w1.heap[k]?) → w1.heap.size ≤ w2.heap.size → Φ w1 → Φ w2
def Res.off (r s : Res) : Prop := ∀ b, r.foot b → ¬ s.foot b
theorem Res.ok_lt {B : Nat} {w : World} {r : Res} (h : r.ok B w) {b : Nat} (hb : r.foot b) : B ≤ b ∧ b < w.heap.size := by
  cases r with
  | blk c cs t => simp only [Res.foot] at hb; subst hb; exact ⟨h.1, lt_of_block h.2⟩
  | row v t sz n xs => exact World.ownsRow.lt h b hb
  | zone x y Φ => exact ⟨Nat.le_trans h.1.1 hb.1, Nat.lt_of_lt_of_le hb.2 h.1.2⟩
theorem Res.ok_move {B B' : Nat} {w w' : World} {r : Res} (h : r.ok B w) (hB : B' ≤ B) (hz : w.heap.size ≤ w'.heap.size) (hs : ∀ b, r.foot b → w'.heap[b]? = w.heap[b]?) : r.ok B' w' := by
  cases r with
  | blk c cs t => exact ⟨Nat.le_trans hB h.1, (hs c rfl).trans h.2⟩
  | row v t sz n xs => exact own_base (own_move h fun b hb _ => hs b hb) hB
  | zone x y Φ => exact ⟨⟨Nat.le_trans hB h.1.1, Nat.le_trans h.1.2 hz⟩, h.2.2 w w' (fun k h1 h2 => hs k ⟨h1, h2⟩) hz h.2.1, h.2.2⟩
/-- w' came of w0: what was there is as it was; the things of L lie in w', each apart from the others -/
structure Sp (w0 w : World) (L : List Res) : Prop where
  bel : Below w0.heap.size w0 w
  all : ∀ r ∈ L, r.ok w0.heap.size w
  sep : L.Pairwise Res.off
theorem Sp.refl (w : World) : Sp w w [] := ⟨Below.refl _ _, fun _ h => (by cases h), List.Pairwise.nil⟩
theorem Sp.call {w0 w w' : World} {L K : List Res} (S : Sp w0 w L) (M : Sp w w' K) : Sp w0 w' (K ++ L) := by
  refine ⟨S.bel.trans (M.bel.mono S.bel.size), fun r hr => ?_, List.pairwise_append.2 ⟨M.sep, S.sep, fun k hk l hl b hb hb2 => ?_⟩⟩
  · rcases List.mem_append.1 hr with h | h
    · exact Res.ok_move (M.all r h) S.bel.size (Nat.le_refl _) fun _ _ => rfl
    · exact Res.ok_move (S.all r h) (Nat.le_refl _) M.bel.size fun b hb => M.bel.block b (Res.ok_lt (S.all r h) hb).2
  · have h1 := (Res.ok_lt (M.all k hk) hb).1
    have h2 := (Res.ok_lt (S.all l hl) hb2).2
    omega
theorem Sp.keep {w0 w w' : World} {L : List Res} (S : Sp w0 w L) (M : Below w.heap.size w w') : Sp w0 w' L := by
  have := S.call (K := []) ⟨M, fun _ h => (by cases h), List.Pairwise.nil⟩
  exact this
theorem Sp.same {w0 w w' : World} {L : List Res} (S : Sp w0 w L) (M : Same w w') : Sp w0 w' L := S.keep (M.below _)
theorem Sp.alloc {w0 w w2 : World} {L : List Res} {cs : Array Value} {t : TypeId} (S : Sp w0 w L) (hw : w2 = w.alloc (.cells cs t)) : Sp w0 w2 (.blk w.heap.size cs t :: L) := by
  subst hw
  have M : Sp w (w.alloc (.cells cs t)) [.blk w.heap.size cs t] :=
    ⟨bel_alloc w _, fun r hr => by rw [List.mem_singleton.1 hr]; exact ⟨Nat.le_refl _, heap_alloc_new w _⟩, List.pairwise_singleton _ _⟩
  exact S.call M
/-- only some of it -/
theorem Sp.sub {w0 w : World} {L K : List Res} (S : Sp w0 w L) (h : K.Sublist L) : Sp w0 w K := ⟨S.bel, fun r hr => S.all r (h.subset hr), S.sep.sublist h⟩
theorem Sp.nil {w0 w : World} {L : List Res} (S : Sp w0 w L) : Sp w0 w [] := S.sub (List.nil_sublist _)
theorem Sp.one {w0 w : World} {L : List Res} (S : Sp w0 w L) (i : Nat) {r : Res} (h : L[i]? = some r) : Sp w0 w [r] := S.sub (List.singleton_sublist.2 (List.mem_of_getElem? h))
theorem Res.off_symm {a b : Res} (h : Res.off a b) : Res.off b a := fun k hb ha => h k ha hb
theorem Sp.perm {w0 w : World} {L K : List Res} (S : Sp w0 w L) (h : L.Perm K) : Sp w0 w K :=
  ⟨S.bel, fun r hr => S.all r (h.mem_iff.2 hr), h.pairwise S.sep fun hab => Res.off_symm hab⟩
theorem Sp.parts {w0 w : World} {L : List Res} (S : Sp w0 w L) (i : Nat) {r : Res} (h : L[i]? = some r) : L = L.take i ++ r :: L.drop (i + 1) ∧ (∀ s ∈ L.take i, Res.off r s) ∧ ∀ s ∈ L.drop (i + 1), Res.off r s := by
  have hi : i < L.length := (List.getElem?_eq_some_iff.1 h).1
  have hLi : L[i] = r := (List.getElem?_eq_some_iff.1 h).2
  have key : L = L.take i ++ r :: L.drop (i + 1) := by
    conv => lhs; rw [← List.take_append_drop i L]
    rw [List.drop_eq_getElem_cons hi, hLi]
  have hsep := S.sep
  rw [key, List.pairwise_append, List.pairwise_cons] at hsep
  obtain ⟨s1, ⟨s2, s3⟩, s4⟩ := hsep
  exact ⟨key, fun s hs => Res.off_symm (s4 s hs r (List.mem_cons_self ..)), s2⟩
/-- the thing at place i is another now; no other was touched -/
theorem Sp.updF {w0 w w' : World} {L : List Res} (S : Sp w0 w L) (i : Nat) {r r' : Res} (h : L[i]? = some r) (hos : w'.os = w.os) (htp : w'.tape = w.tape) (hout : w'.output = w.output) (hsz : w.heap.size ≤ w'.heap.size)
    (hb : ∀ k, k < w.heap.size → ¬ r.foot k → w'.heap[k]? = w.heap[k]?) (hr : r'.ok w0.heap.size w') (hf : ∀ g, r'.foot g → r.foot g ∨ w.heap.size ≤ g) : Sp w0 w' (L.set i r') := by
  have hi : i < L.length := (List.getElem?_eq_some_iff.1 h).1
  have hrm : r ∈ L := List.mem_of_getElem? h
  have hk : ∀ s ∈ L, Res.off r s → s.ok w0.heap.size w' := fun s hs ho => Res.ok_move (S.all s hs) (Nat.le_refl _) hsz fun b hb2 => hb b (Res.ok_lt (S.all s hs) hb2).2 (fun e => ho b e hb2)
  have hoff : ∀ s ∈ L, Res.off r s → Res.off r' s := fun s hs ho b hb hb2 => by
    rcases hf b hb with h1 | h1
    · exact ho b h1 hb2
    · have := (Res.ok_lt (S.all s hs) hb2).2; omega
  obtain ⟨key, o1, o2⟩ := S.parts i h
  have hset : L.set i r' = L.take i ++ r' :: L.drop (i + 1) := by rw [List.set_eq_take_append_cons_drop, if_pos hi]
  have hsep := S.sep
  rw [key, List.pairwise_append, List.pairwise_cons] at hsep
  obtain ⟨s1, ⟨s2, s3⟩, s4⟩ := hsep
  have m1 : ∀ s ∈ L.take i, s ∈ L := fun s hs => List.mem_of_mem_take hs
  have m2 : ∀ s ∈ L.drop (i + 1), s ∈ L := fun s hs => List.mem_of_mem_drop hs
  rw [hset]
  refine ⟨⟨hos.trans S.bel.os, htp.trans S.bel.tape, hout.trans S.bel.output, Nat.le_trans S.bel.size hsz, fun k hk0 => (hb k (Nat.lt_of_lt_of_le hk0 S.bel.size) fun e => ?_).trans (S.bel.block k hk0)⟩, fun s hs => ?_, ?_⟩
  · have := (Res.ok_lt (S.all r hrm) e).1; omega
  · rcases List.mem_append.1 hs with h1 | h1
    · exact hk s (m1 s h1) (o1 s h1)
    · rcases List.mem_cons.1 h1 with rfl | h2
      · exact hr
      · exact hk s (m2 s h2) (o2 s h2)
  · rw [List.pairwise_append, List.pairwise_cons]
    refine ⟨s1, ⟨fun s hs => hoff s (m2 s hs) (o2 s hs), s3⟩, fun a ha b hb => ?_⟩
    rcases List.mem_cons.1 hb with rfl | h2
    · exact Res.off_symm (hoff a (m1 a ha) (o1 a ha))
    · exact s4 a ha b (List.mem_cons_of_mem _ h2)
theorem Sp.upd {w0 w w' : World} {L : List Res} (S : Sp w0 w L) (i : Nat) {r r' : Res} (h : L[i]? = some r) {f : Option Nat} (hg : w.grownBy w' f) (hfr : ∀ b, f = some b → r.foot b) (hr : r'.ok w0.heap.size w') (hf : ∀ g, r'.foot g → r.foot g ∨ w.heap.size ≤ g) : Sp w0 w' (L.set i r') :=
  S.updF i h hg.os hg.tape hg.output hg.size (fun k hk hn => hg.block k hk fun e => hn (hfr k e.symm)) hr hf
theorem Stored.grown {b : Nat} {w w2 : World} (h : Stored b w w2) : w.grownBy w2 (some b) := ⟨h.os, h.tape, h.output, by rw [h.size]; exact Nat.le_refl _, fun k _ hk => h.block k fun e => hk (by rw [e])⟩
/-- a block was stored to -/
theorem Sp.put {w0 w w' : World} {L : List Res} (S : Sp w0 w L) (i : Nat) {b : Nat} {cs cs' : Array Value} {t : TypeId} (h : L[i]? = some (.blk b cs t)) (hs : Stored b w w') (hb : w'.heap[b]? = some (.cells cs' t (0, 0))) : Sp w0 w' (L.set i (.blk b cs' t)) :=
  S.upd i h hs.grown (fun _ e => (Option.some.inj e).symm) ⟨(S.all _ (List.mem_of_getElem? h)).1, hb⟩ fun _ hg => .inl hg
/-- a row grew -/
theorem Sp.grow {w0 w w' : World} {L : List Res} (S : Sp w0 w L) (i : Nat) {v v' : Value} {t : TypeId} {sz n n' : Nat} {xs xs' : List Value} (h : L[i]? = some (.row v t sz n xs)) (hg : w.grownBy w' v.ownBlock) (ho : w'.ownsRow w0.heap.size t sz v' n' xs')
    (hf : ∀ g, v'.ownBlock = some g → v.ownBlock = some g ∨ w.heap.size ≤ g) : Sp w0 w' (L.set i (.row v' t sz n' xs')) :=
  S.upd i h hg (fun _ e => e) ho hf
theorem Sp.heap {w0 w : World} {L : List Res} (S : Sp w0 w L) (i : Nat) {b : Nat} {cs : Array Value} {t : TypeId} (h : L[i]? = some (.blk b cs t)) : w.heap[b]? = some (.cells cs t (0, 0)) := (S.all _ (List.mem_of_getElem? h)).2
theorem Sp.own {w0 w : World} {L : List Res} (S : Sp w0 w L) (i : Nat) {v : Value} {t : TypeId} {sz n : Nat} {xs : List Value} (h : L[i]? = some (.row v t sz n xs)) : w.ownsRow w0.heap.size t sz v n xs := S.all _ (List.mem_of_getElem? h)
theorem Sp.le {w0 w : World} {L : List Res} (S : Sp w0 w L) : w0.heap.size ≤ w.heap.size := S.bel.size
theorem Sp.ge {w0 w : World} {L : List Res} (S : Sp w0 w L) (i : Nat) {b : Nat} {cs : Array Value} {t : TypeId} (h : L[i]? = some (.blk b cs t)) : w0.heap.size ≤ b := (S.all _ (List.mem_of_getElem? h)).1
/-- bytes that a slice read as at the beginning -/
theorem Sp.old {w0 w : World} {L : List Res} (S : Sp w0 w L) {v : Value} {l : List Int} (h : Rb w0 v l) : Rb w v l := h.below S.bel
theorem Sp.rb {w0 w : World} {L : List Res} (S : Sp w0 w L) (i : Nat) {v : Value} {n : Nat} {l : List Int} (h : L[i]? = some (.row v 5 1 n (bts l))) (hb : Byt l) : Rb w v l := Rb.of_own hb (S.own i h)
theorem Sp.pk {w0 w : World} {L : List Res} (S : Sp w0 w L) (i : Nat) {b : Nat} {p : Pk} (h : L[i]? = some (.blk b (pkC p) 30)) : PkAt w b p := S.heap i h
/-- a slice of no room at all is a row of its own -/
theorem Sp.nilrow {w0 w : World} {L : List Res} (S : Sp w0 w L) (t : TypeId) (sz : Nat) : Sp w0 w (.row (.slice none 0 0) t sz 0 [] :: L) :=
  ⟨S.bel, fun r hr => by
    rcases List.mem_cons.1 hr with rfl | h
    · exact World.ownsRow_nil _ _ _ _
    · exact S.all r h, List.pairwise_cons.2 ⟨fun s _ b hb => by simp [Res.foot, Value.ownBlock] at hb, S.sep⟩⟩
/-- a block of bytes that was just laid, as the row of a slice -/
theorem Sp.lit {w0 w w2 : World} {L : List Res} {cs : Array Value} {l : List Int} {n : Nat} (S : Sp w0 w L) (hw : w2 = w.alloc (.cells cs 5)) (hc : cs.toList = bts l) (hn : n = l.length) (hm : n ≤ 1000) : Sp w0 w2 (.row (.slice (some ⟨w.heap.size, 0, none⟩) n n) 5 1 n (bts l) :: L) := by
  have hO := OwnB.lit (base := w.heap.size) hw (Nat.le_refl _) hc hn hm
  have M : Sp w w2 [.row (.slice (some ⟨w.heap.size, 0, none⟩) n n) 5 1 n (bts l)] :=
    ⟨by rw [hw]; exact bel_alloc w _, fun r hr => by rw [List.mem_singleton.1 hr]; subst hn; exact hO.own, List.pairwise_singleton _ _⟩
  exact S.call M
/-- what OwnB says of a call's answer -/
theorem Sp.ofOwn {w w' : World} {v : Value} {l : List Int} {n : Nat} (h : w'.ownsRow w.heap.size 5 1 v n (bts l)) (hb : Below w.heap.size w w') : Sp w w' [.row v 5 1 n (bts l)] :=
  ⟨hb, fun r hr => by rw [List.mem_singleton.1 hr]; exact h, List.pairwise_singleton _ _⟩
/-- append to the row at place i -/
theorem wpList_grow {w0 w : World} {ops : Array Oper} {rest : List Oper} {o : Oper} {a : Act} {Q : Exit → Act → World → Prop} (hgd : Region.wanted o (yielded ops a.tmps) = true) (s x : Operand)
    (ho : o.op = .call { callee := .builtin .append, args := #[s, x], argTypes := #[22, 22] }) {L : List Res} (S : Sp w0 w L) (i : Nat) {v : Value} {n : Nat} {l : List Int} (hi : L[i]? = some (.row v 5 1 n (bts l))) (hs : a.eval s = v)
    (xv : Value) (m : List Int) (hx : a.eval x = xv) (hR : Rb w xv m) (k : Nat) (hk : k = n + m.length) (hb : k ≤ 140737488355328)
    (h : ∀ a2 c2 w', Sp w0 w' (L.set i (.row (.slice a2 k c2) 5 1 k (bts (l ++ m)))) → wpList Tryd.prog ops Q rest (a.put o.dst (.slice a2 k c2)) w') :
    wpList Tryd.prog ops Q (o :: rest) a w := by
  obtain ⟨i0, hi0, hz0, hz1, hz2⟩ := info_parts Tryd.info5
  subst hk
  refine wpList_append_bytesG hgd s x 22 ho w0.heap.size 5 i0 _ Tryd.underlying22 hi0 hz0 hz1 hz2 rfl v n (bts l) hs (S.own i hi) xv m hx hR hb S.le fun a2 c2 w' h1 h2 h3 => ?_
  exact h a2 c2 w' (S.grow i hi h2 (by rw [bts_append]; exact h1) h3)
/-! ### fields of a packet by their offsets -/
def pkGet (p : Pk) : Nat → Option Value
  | 0 => some (.int .i64 p.V)
  | 1 => some (.int .i64 p.TOS)
  | 2 => some (.int .i64 p.Flow)
  | 3 => some (.int .i64 p.sV)
  | 20 => some (.int .i64 p.dV)
  | 37 => some (.int .i64 p.Proto)
  | 38 => some (.int .i64 p.TTL)
  | 39 => some (.int .u32 p.ID)
  | 40 => some (.bool p.DF)
  | 41 => some (.bool p.More)
  | 42 => some (.bool p.Frag)
  | 43 => some (.int .i64 p.Off)
  | 44 => some p.ov
  | 45 => some p.xv
  | _ => none
def pkPut (p : Pk) : Nat → Value → Option Pk
  | 0, .int .i64 x => some { p with V := x }
  | 1, .int .i64 x => some { p with TOS := x }
  | 2, .int .i64 x => some { p with Flow := x }
  | 3, .int .i64 x => some { p with sV := x }
  | 20, .int .i64 x => some { p with dV := x }
  | 37, .int .i64 x => some { p with Proto := x }
  | 38, .int .i64 x => some { p with TTL := x }
  | 39, .int .u32 x => some { p with ID := x }
  | 40, .bool x => some { p with DF := x }
  | 41, .bool x => some { p with More := x }
  | 42, .bool x => some { p with Frag := x }
  | 43, .int .i64 x => some { p with Off := x }
  | 44, .slice s n c => some { p with ov := .slice s n c }
  | 45, .slice s n c => some { p with xv := .slice s n c }
  | _, _ => none
theorem pkL_get {p : Pk} (h1 : p.sB.length = 16) (h2 : p.dB.length = 16) {j : Nat} {v : Value} (h : pkGet p j = some v) : (pkL p)[j]? = some v := by
  unfold pkGet at h
  split at h
  all_goals first
    | (rw [← h]; rfl)
    | (rw [← h]; exact pkL_rest h1 0)
    | (rw [← h]; exact pkL_tail h1 h2 0)
    | (rw [← h]; exact pkL_tail h1 h2 1)
    | (rw [← h]; exact pkL_tail h1 h2 2)
    | (rw [← h]; exact pkL_tail h1 h2 3)
    | (rw [← h]; exact pkL_tail h1 h2 4)
    | (rw [← h]; exact pkL_tail h1 h2 5)
    | (rw [← h]; exact pkL_tail h1 h2 6)
    | (rw [← h]; exact pkL_tail h1 h2 7)
    | (rw [← h]; exact pkL_tail h1 h2 8)
    | cases h
theorem pkL_set_dV {p : Pk} (h1 : p.sB.length = 16) (x : Int) : (pkL p).set 20 (.int .i64 x) = pkL { p with dV := x } := by
  unfold pkL
  have l1 : (Value.int .i64 p.sV :: bts p.sB).length = 17 := by simp [bts_length, h1]
  rw [show (20 : Nat) = 17 + 1 + 1 + 1 by omega]
  simp only [List.set_cons_succ]
  rw [List.set_append_right _ _ (by omega), l1, Nat.sub_self]
  rfl
theorem pkPut_set {p p' : Pk} (h1 : p.sB.length = 16) (h2 : p.dB.length = 16) {j : Nat} {v : Value} (h : pkPut p j v = some p') : (pkL p).set j v = pkL p' ∧ j < 46 ∧ v.cells = #[v] ∧ v.oneCell' = true := by
  unfold pkPut at h
  split at h
  all_goals first
    | (cases h; exact ⟨rfl, by decide, rfl, rfl⟩)
    | (cases h; exact ⟨pkL_set_dV h1 _, by decide, rfl, rfl⟩)
    | (cases h; exact ⟨pkL_set_tail h1 h2 0 _ rfl rfl, by decide, rfl, rfl⟩)
    | (cases h; exact ⟨pkL_set_tail h1 h2 1 _ rfl rfl, by decide, rfl, rfl⟩)
    | (cases h; exact ⟨pkL_set_tail h1 h2 2 _ rfl rfl, by decide, rfl, rfl⟩)
    | (cases h; exact ⟨pkL_set_tail h1 h2 3 _ rfl rfl, by decide, rfl, rfl⟩)
    | (cases h; exact ⟨pkL_set_tail h1 h2 4 _ rfl rfl, by decide, rfl, rfl⟩)
    | (cases h; exact ⟨pkL_set_tail h1 h2 5 _ rfl rfl, by decide, rfl, rfl⟩)
    | (cases h; exact ⟨pkL_set_tail h1 h2 6 _ rfl rfl, by decide, rfl, rfl⟩)
    | (cases h; exact ⟨pkL_set_tail h1 h2 7 _ rfl rfl, by decide, rfl, rfl⟩)
    | (cases h; exact ⟨pkL_set_tail h1 h2 8 _ rfl rfl, by decide, rfl, rfl⟩)
    | cases h
/-- one cell, loaded -/
theorem wpList_load_one {P : Program} {w : World} {ops : Array Oper} {rest : List Oper} {o : Oper} {a : Act} {Q : Exit → Act → World → Prop} (hgd : Region.wanted o (yielded ops a.tmps) = true) (ty : TypeId) (x : Operand) (ho : o.op = .load ty x)
    (b off : Nat) (hx : a.eval x = .pointer (some ⟨b, off, none⟩)) (v : Value) (hc : w.cell? ⟨b, off, none⟩ = some v) (hu : (P.underlying ty).any (fun d => !d.isRow) = true)
    (h : wpList P ops Q rest (a.put o.dst v) w) : wpList P ops Q (o :: rest) a w := by
  refine wpList_step fun K hK => ?_
  rw [if_pos hgd]
  have hrun : (loadVar ty ⟨b, off, none⟩).run P w = .ok v w := by
    cases hq : P.underlying ty with
    | none => simp [hq] at hu
    | some d =>
      have hagg : (isAgg ty).run P w = .ok false w := by
        unfold isAgg
        rw [Sem.run_bind, run_underlying hq w]
        cases d <;> simp_all [TypeDesc.isRow]
      simp [loadVar, hagg, hc]
  unfold Oper.wp execOp
  simp only [ho, hx, Instr.loadAt, Instr.sureAddr, Sem.run_bind, Sem.run_pure, Result.andThen_ok, hrun]
  exact hK _ _ h
/-- the kinds of a packet's single cells -/
def fieldT (ty : TypeId) : Bool := ty == 3 || (ty == 4 || (ty == 22 || ty == 28))
theorem fieldT_ok {ty : TypeId} (h : fieldT ty = true) : (Tryd.prog.underlying ty).any (fun d => !d.isRow) = true ∧ (Tryd.prog.info? ty).map (·.size) = some 1 := by
  simp only [fieldT, Bool.or_eq_true, beq_iff_eq] at h
  rcases h with rfl | rfl | rfl | rfl
  · exact ⟨by kernel_rfl, int_info⟩
  · exact ⟨by kernel_rfl, bool_info⟩
  · exact ⟨by kernel_rfl, bytes_info⟩
  · exact ⟨by kernel_rfl, u32_info⟩
section
variable {w0 w : World} {ops : Array Oper} {rest : List Oper} {o : Oper} {a : Act} {Q : Exit → Act → World → Prop} {L : List Res}
/-- a field of a packet that is the call's own: loaded, stored -/
theorem wpList_get_pk (hgd : Region.wanted o (yielded ops a.tmps) = true) (ty : TypeId) (x : Operand) (ho : o.op = .load ty x) (S : Sp w0 w L) (b off : Nat) (hx : a.eval x = .pointer (some ⟨b, off, none⟩)) (i : Nat) (p : Pk) (hi : L[i]? = some (.blk b (pkC p) 30))
    (v : Value) (hp : pkGet p off = some v) (hu : fieldT ty = true) (h1 : p.sB.length = 16) (h2 : p.dB.length = 16) (h : wpList Tryd.prog ops Q rest (a.put o.dst v) w) : wpList Tryd.prog ops Q (o :: rest) a w :=
  wpList_load_one hgd ty x ho b off hx v (((S.pk i hi).cell off).trans (pkL_get h1 h2 hp)) (fieldT_ok hu).1 h
theorem wpList_put_pk (hgd : o.guard = none) (ty : TypeId) (x y : Operand) (ho : o.op = .store ty x y) (hd : o.dst = none) (S : Sp w0 w L) (b off : Nat) (hx : a.eval x = .pointer (some ⟨b, off, none⟩)) (i : Nat) (p : Pk) (hi : L[i]? = some (.blk b (pkC p) 30))
    (v : Value) (hy : a.eval y = v) (p' : Pk) (hp : pkPut p off v = some p') (hz : fieldT ty = true) (h1 : p.sB.length = 16) (h2 : p.dB.length = 16)
    (h : ∀ w2, Sp w0 w2 (L.set i (.blk b (pkC p') 30)) → wpList Tryd.prog ops Q rest a w2) : wpList Tryd.prog ops Q (o :: rest) a w := by
  obtain ⟨k1, k2, k3, k4⟩ := pkPut_set h1 h2 hp
  exact wpList_store_pf hgd ty x y ho hd b off v hx hy k3 k4 p p' (S.pk i hi) h1 h2 (fieldT_ok hz).2 k2 k1 fun w2 hA hS => h w2 (S.put i hi hS hA)
/-- a whole packet: loaded, stored -/
theorem wpList_getW (hgd : Region.wanted o (yielded ops a.tmps) = true) (x : Operand) (ho : o.op = .load 30 x) (S : Sp w0 w L) (b : Nat) (hx : a.eval x = .pointer (some ⟨b, 0, none⟩)) (i : Nat) (p : Pk) (hi : L[i]? = some (.blk b (pkC p) 30))
    (h1 : p.sB.length = 16) (h2 : p.dB.length = 16) (h : wpList Tryd.prog ops Q rest (a.put o.dst (.agg (pkC p))) w) : wpList Tryd.prog ops Q (o :: rest) a w :=
  wpList_load_pk hgd x ho b p hx (S.pk i hi) h1 h2 h
theorem wpList_putW (hgd : o.guard = none) (x y : Operand) (ho : o.op = .store 30 x y) (hd : o.dst = none) (S : Sp w0 w L) (b : Nat) (hx : a.eval x = .pointer (some ⟨b, 0, none⟩)) (i : Nat) (p0 : Pk) (hi : L[i]? = some (.blk b (pkC p0) 30))
    (p : Pk) (hy : a.eval y = .agg (pkC p)) (h1 : p.sB.length = 16) (h2 : p.dB.length = 16) (h3 : p0.sB.length = 16) (h4 : p0.dB.length = 16) (h5 : p.ov.oneCell' = true) (h6 : p.xv.oneCell' = true)
    (h : ∀ w2, Sp w0 w2 (L.set i (.blk b (pkC p) 30)) → wpList Tryd.prog ops Q rest a w2) : wpList Tryd.prog ops Q (o :: rest) a w :=
  wpList_store_pk hgd x y ho hd b p p0 hx hy (S.pk i hi) h1 h2 h3 h4 h5 h6 fun w2 hA hS => h w2 (S.put i hi hS hA)
/-- an address within a packet, stored -/
theorem wpList_put_src (hgd : o.guard = none) (x y : Operand) (ho : o.op = .store 27 x y) (hd : o.dst = none) (S : Sp w0 w L) (b : Nat) (hx : a.eval x = .pointer (some ⟨b, 3, none⟩)) (i : Nat) (p : Pk) (hi : L[i]? = some (.blk b (pkC p) 30))
    (V : Int) (bs : List Int) (hy : a.eval y = .agg (addrC V bs)) (hb : bs.length = 16) (h1 : p.sB.length = 16) (h2 : p.dB.length = 16)
    (h : ∀ w2, Sp w0 w2 (L.set i (.blk b (pkC { p with sV := V, sB := bs }) 30)) → wpList Tryd.prog ops Q rest a w2) : wpList Tryd.prog ops Q (o :: rest) a w :=
  wpList_store_src hgd x y ho hd b V bs hx hy hb p (S.pk i hi) h1 h2 fun w2 hA hS => h w2 (S.put i hi hS hA)
theorem wpList_put_dst (hgd : o.guard = none) (x y : Operand) (ho : o.op = .store 27 x y) (hd : o.dst = none) (S : Sp w0 w L) (b : Nat) (hx : a.eval x = .pointer (some ⟨b, 20, none⟩)) (i : Nat) (p : Pk) (hi : L[i]? = some (.blk b (pkC p) 30))
    (V : Int) (bs : List Int) (hy : a.eval y = .agg (addrC V bs)) (hb : bs.length = 16) (h1 : p.sB.length = 16) (h2 : p.dB.length = 16)
    (h : ∀ w2, Sp w0 w2 (L.set i (.blk b (pkC { p with dV := V, dB := bs }) 30)) → wpList Tryd.prog ops Q rest a w2) : wpList Tryd.prog ops Q (o :: rest) a w :=
  wpList_store_dst hgd x y ho hd b V bs hx hy hb p (S.pk i hi) h1 h2 fun w2 hA hS => h w2 (S.put i hi hS hA)
end
/-! ### a cell of a block of the call's own: loaded, stored -/
theorem Sp.cellC {w0 w : World} {L : List Res} (S : Sp w0 w L) (i : Nat) {b : Nat} {cs : Array Value} {t : TypeId} (h : L[i]? = some (.blk b cs t)) {j : Nat} {v : Value} (hv : cs[j]? = some v) : w.cell? ⟨b, j, none⟩ = some v := by
  have := S.heap i h
  simp only [World.cell?, this, hv]
  rfl
theorem wpList_getC {w0 w : World} {ops : Array Oper} {rest : List Oper} {o : Oper} {a : Act} {Q : Exit → Act → World → Prop} {L : List Res} (hgd : Region.wanted o (yielded ops a.tmps) = true) (ty : TypeId) (x : Operand) (ho : o.op = .load ty x) (S : Sp w0 w L)
    (b off : Nat) (hx : a.eval x = .pointer (some ⟨b, off, none⟩)) (i : Nat) (cs : Array Value) (t : TypeId) (hi : L[i]? = some (.blk b cs t)) (v : Value) (hp : cs[off]? = some v) (hu : fieldT ty = true) (h : wpList Tryd.prog ops Q rest (a.put o.dst v) w) : wpList Tryd.prog ops Q (o :: rest) a w :=
  wpList_load_one hgd ty x ho b off hx v (S.cellC i hi hp) (fieldT_ok hu).1 h
theorem wpList_putC {w0 w : World} {ops : Array Oper} {rest : List Oper} {o : Oper} {a : Act} {Q : Exit → Act → World → Prop} {L : List Res} (hgd : o.guard = none) (ty : TypeId) (x y : Operand) (ho : o.op = .store ty x y) (hd : o.dst = none) (S : Sp w0 w L)
    (b off : Nat) (hx : a.eval x = .pointer (some ⟨b, off, none⟩)) (i : Nat) (l : List Value) (t : TypeId) (hi : L[i]? = some (.blk b l.toArray t)) (v : Value) (hy : a.eval y = v) (hv : v.cells = #[v]) (h1 : v.oneCell' = true) (hz : fieldT ty = true) (hj : off < l.length)
    (h : ∀ w2, Sp w0 w2 (L.set i (.blk b (l.set off v).toArray t)) → wpList Tryd.prog ops Q rest a w2) : wpList Tryd.prog ops Q (o :: rest) a w := by
  refine wpList_store_rng hgd ty x y ho hd b off v hx hy [v] (by rw [hv]) (by simpa using h1) t l.toArray (S.heap i hi) (fieldT_ok hz).2 (by simp; omega) fun w2 k1 k2 => h w2 (S.put i hi k2 ?_)
  rw [k1]
  simp only [List.length_singleton]
  rw [List.set_eq_take_append_cons_drop, if_pos hj]
  simp
/-- a whole struct: loaded, stored -/
theorem wpList_getS {w0 w : World} {ops : Array Oper} {rest : List Oper} {o : Oper} {a : Act} {Q : Exit → Act → World → Prop} {L : List Res} (hgd : Region.wanted o (yielded ops a.tmps) = true) (ty : TypeId) (x : Operand) (ho : o.op = .load ty x) (S : Sp w0 w L)
    (b : Nat) (hx : a.eval x = .pointer (some ⟨b, 0, none⟩)) (i : Nat) (cs : Array Value) (t : TypeId) (hi : L[i]? = some (.blk b cs t)) (d : TypeDesc) (hd : (match d with | .struct _ | .array _ _ => true | _ => false) = true) (hu : Tryd.prog.underlying ty = some d)
    (hz : (Tryd.prog.info? ty).map (·.size) = some cs.size) (h : wpList Tryd.prog ops Q rest (a.put o.dst (.agg cs)) w) : wpList Tryd.prog ops Q (o :: rest) a w := by
  cases d <;> first | exact wpList_load_blk hgd ty x ho b hx t cs _ (S.heap i hi) _ hu rfl hz h | cases hd
theorem wpList_putS {w0 w : World} {ops : Array Oper} {rest : List Oper} {o : Oper} {a : Act} {Q : Exit → Act → World → Prop} {L : List Res} (hgd : o.guard = none) (ty : TypeId) (x y : Operand) (ho : o.op = .store ty x y) (hd : o.dst = none) (S : Sp w0 w L)
    (b : Nat) (cs : Array Value) (hx : a.eval x = .pointer (some ⟨b, 0, none⟩)) (hy : a.eval y = .agg cs) (i : Nat) (t : TypeId) (old : Array Value) (hi : L[i]? = some (.blk b old t)) (hz : (Tryd.prog.info? ty).map (·.size) = some cs.size) (hold : old.size = cs.size) (h1 : cs.all (·.oneCell') = true)
    (h : ∀ w2, Sp w0 w2 (L.set i (.blk b cs t)) → wpList Tryd.prog ops Q rest a w2) : wpList Tryd.prog ops Q (o :: rest) a w :=
  wpList_store_blk hgd ty x y ho hd b cs hx hy t old (S.heap i hi) hz hold h1 fun w2 hA hS => h w2 (S.put i hi hS hA)
/-! ### boxes at a call's beginning -/
theorem Sp.in1 (w : World) (cs : Array Value) (t : TypeId) : Sp w (w.alloc (.cells cs t)) [.blk w.heap.size cs t] := (Sp.refl w).alloc rfl
theorem alloc_size (w : World) (o : Obj) : (w.alloc o).heap.size = w.heap.size + 1 := by simp
theorem Sp.in2 (w : World) (cs cs2 : Array Value) (t t2 : TypeId) : Sp w ((w.alloc (.cells cs t)).alloc (.cells cs2 t2)) [.blk (w.heap.size + 1) cs2 t2, .blk w.heap.size cs t] := by
  have := (Sp.in1 w cs t).alloc (cs := cs2) (t := t2) rfl
  rwa [alloc_size] at this
theorem Sp.in3 (w : World) (cs cs2 cs3 : Array Value) (t t2 t3 : TypeId) : Sp w (((w.alloc (.cells cs t)).alloc (.cells cs2 t2)).alloc (.cells cs3 t3)) [.blk (w.heap.size + 2) cs3 t3, .blk (w.heap.size + 1) cs2 t2, .blk w.heap.size cs t] := by
  have := (Sp.in2 w cs cs2 t t2).alloc (cs := cs3) (t := t3) rfl
  rwa [alloc_size, alloc_size] at this
theorem Sp.in4 (w : World) (cs cs2 cs3 cs4 : Array Value) (t t2 t3 t4 : TypeId) : Sp w ((((w.alloc (.cells cs t)).alloc (.cells cs2 t2)).alloc (.cells cs3 t3)).alloc (.cells cs4 t4)) [.blk (w.heap.size + 3) cs4 t4, .blk (w.heap.size + 2) cs3 t3, .blk (w.heap.size + 1) cs2 t2, .blk w.heap.size cs t] := by
  have := (Sp.in3 w cs cs2 cs3 t t2 t3).alloc (cs := cs4) (t := t4) rfl
  rwa [alloc_size, alloc_size, alloc_size] at this
theorem Sp.cap {w0 w : World} {L : List Res} (S : Sp w0 w L) (i : Nat) {a : Option Go.Addr} {n c sz : Nat} {t : TypeId} {xs : List Value} (h : L[i]? = some (.row (.slice a n c) t sz n xs)) : n ≤ c ∧ c ≤ maxLen := by
  obtain ⟨a', c', hv, h1, h2, _⟩ := own_shape (S.own i h)
  simp only [Value.slice.injEq] at hv
  obtain ⟨rfl, -, rfl⟩ := hv
  exact ⟨h1, h2⟩
/-! ### the first bytes of a row -/
theorem own_front {w : World} {base t n cap : Nat} {a : Option Go.Addr} {xs : List Value} (h : w.ownsRow base t 1 (.slice a n cap) n xs) {j : Nat} (hj : j ≤ n) : w.ownsRow base t 1 (.slice a j cap) j (xs.take j) := by
  have h1 := h.1
  refine ⟨by simp; omega, ?_⟩
  rcases h.2 with ⟨hv, h0⟩ | ⟨g, c, cur, hv, h2, h3, h4, h5, h6, h7⟩
  · simp only [Value.slice.injEq] at hv
    obtain ⟨rfl, -, rfl⟩ := hv
    subst h0
    obtain rfl : j = 0 := by omega
    exact .inl ⟨rfl, rfl⟩
  · simp only [Value.slice.injEq] at hv
    obtain ⟨rfl, -, rfl⟩ := hv
    refine .inr ⟨g, cap, cur, rfl, h2, h3, by omega, h5, h6, ?_⟩
    rw [← h7, List.take_take]
    congr 1
    omega
theorem Sp.front {w0 w : World} {L : List Res} (S : Sp w0 w L) (i : Nat) {a : Option Go.Addr} {n cap : Nat} {l : List Int} (h : L[i]? = some (.row (.slice a n cap) 5 1 n (bts l))) (j : Nat) (hj : j ≤ n) : Sp w0 w (L.set i (.row (.slice a j cap) 5 1 j (bts (l.take j)))) :=
  S.upd i h (World.grownBy.refl w none) (fun _ e => by cases e) (by rw [bts_take]; exact own_front (S.own i h) hj) fun g hg => .inl (by cases a <;> simp_all [Res.foot, Value.ownBlock])
theorem wpList_front {w : World} {ops : Array Oper} {rest : List Oper} {o : Oper} {a : Act} {Q : Exit → Act → World → Prop} (hgd : Region.wanted o (yielded ops a.tmps) = true) (x y : Operand) (ho : o.op = .slice 22 x none (some y) none)
    (ad : Option Go.Addr) (n cap : Nat) (hx : a.eval x = .slice ad n cap) (k : IntKind) (z : Int) (hy : a.eval y = .int k z) (j : Nat) (hz : z = j) (hj : j ≤ cap) (h : wpList Tryd.prog ops Q rest (a.put o.dst (.slice ad j cap)) w) : wpList Tryd.prog ops Q (o :: rest) a w := by
  obtain ⟨i0, hi, hz0, hz1, hz2⟩ := info_parts Tryd.info5
  refine wpList_step fun K hK => ?_
  rw [if_pos hgd]
  unfold Oper.wp execOp
  simp only [ho, hx, Option.map_some, Option.map_none, hy, Instr.sliceAt, run_underlying (P := Tryd.prog) Tryd.underlying22 w, run_slice_h_sub (P := Tryd.prog) 22 5 Tryd.underlying22 hi hz1 ad n cap k z j hz hj w, Sem.run_bind, Sem.run_pure, Result.andThen_ok]
  exact hK _ _ h
/-! ### one byte of a row: loaded, stored -/
theorem Sp.rowcell {w0 w : World} {L : List Res} (S : Sp w0 w L) (i : Nat) {g n c : Nat} {l : List Int} (h : L[i]? = some (.row (.slice (some ⟨g, 0, none⟩) n c) 5 1 n (bts l))) {j : Nat} (hj : j < l.length) : w.cell? ⟨g, j, none⟩ = some (.int .u8 (gt l j)) := by
  have ho := S.own i h
  have hn : n = l.length := by have := ho.1; rw [bts_length] at this; omega
  subst hn
  rw [ho.cellAt j (by omega), bts_some hj]
theorem Sp.rowlen {w0 w : World} {L : List Res} (S : Sp w0 w L) (i : Nat) {v : Value} {n : Nat} {l : List Int} (h : L[i]? = some (.row v 5 1 n (bts l))) : n = l.length := by
  have := (S.own i h).1; rw [bts_length] at this; omega
/-- a row that is not empty has a block -/
theorem Sp.rowopen {w0 w : World} {L : List Res} (S : Sp w0 w L) (i : Nat) {v : Value} {n : Nat} {l : List Int} (h : L[i]? = some (.row v 5 1 n (bts l))) (h0 : 0 < n) : ∃ g c, v = .slice (some ⟨g, 0, none⟩) n c := by
  rcases (S.own i h).2 with ⟨_, h1⟩ | ⟨g, c, cur, hv, _⟩
  · omega
  · exact ⟨g, c, hv⟩
theorem wpList_get_row {w0 w : World} {ops : Array Oper} {rest : List Oper} {o : Oper} {a : Act} {Q : Exit → Act → World → Prop} (hgd : Region.wanted o (yielded ops a.tmps) = true) (x : Operand) (ho : o.op = .load 5 x) {L : List Res} (S : Sp w0 w L)
    (g j : Nat) (hx : a.eval x = .pointer (some ⟨g, j, none⟩)) (i n c : Nat) (l : List Int) (hi : L[i]? = some (.row (.slice (some ⟨g, 0, none⟩) n c) 5 1 n (bts l))) (hj : j < n) (h : wpList Tryd.prog ops Q rest (a.put o.dst (.int .u8 (gt l j))) w) : wpList Tryd.prog ops Q (o :: rest) a w :=
  wpList_load_one hgd 5 x ho g j hx _ (S.rowcell i hi (by rw [← S.rowlen i hi]; exact hj)) (by kernel_rfl) h
theorem u8_info1 : (Tryd.prog.info? 5).map (·.size) = some 1 := by kernel_rfl
theorem wpList_put_row {w0 w : World} {ops : Array Oper} {rest : List Oper} {o : Oper} {a : Act} {Q : Exit → Act → World → Prop} (hgd : o.guard = none) (x y : Operand) (ho : o.op = .store 5 x y) (hd : o.dst = none) {L : List Res} (S : Sp w0 w L)
    (g j : Nat) (hx : a.eval x = .pointer (some ⟨g, j, none⟩)) (z : Int) (hy : a.eval y = .int .u8 z) (i n c : Nat) (l : List Int) (hi : L[i]? = some (.row (.slice (some ⟨g, 0, none⟩) n c) 5 1 n (bts l))) (hj : j < n)
    (h : ∀ w2, Sp w0 w2 (L.set i (.row (.slice (some ⟨g, 0, none⟩) n c) 5 1 n (bts (l.set j z)))) → wpList Tryd.prog ops Q rest a w2) : wpList Tryd.prog ops Q (o :: rest) a w := by
  have hO := S.own i hi
  have h1 := hO.1
  rcases hO.2 with ⟨hv, _⟩ | ⟨g', c', cur, hv, h2, h3, h4, h5, h6, h7⟩
  · cases hv
  · simp only [Value.slice.injEq, Option.some.injEq, Addr.mk.injEq, and_true, true_and] at hv
    obtain ⟨rfl, rfl⟩ := hv
    simp only [Nat.mul_one] at h6 h7
    refine wpList_store_rng hgd 5 x y ho hd g j (.int .u8 z) hx hy [.int .u8 z] rfl (by simp; rfl) 5 cur h3 u8_info1 (by simp; omega) fun w2 k1 k2 => h w2 ?_
    refine S.upd i hi k2.grown (fun _ e => by simp only [Res.foot]; exact e) ?_ fun _ hg => .inl hg
    refine ⟨by simp [bts_length]; rw [bts_length] at h1; omega, .inr ⟨g, c, (cur.toList.take j ++ [Value.int .u8 z] ++ cur.toList.drop (j + 1)).toArray, rfl, h2, k1, h4, h5, ?_, ?_⟩⟩
    · simp; omega
    · have e1 : cur.toList.take j ++ [Value.int .u8 z] ++ cur.toList.drop (j + 1) = cur.toList.set j (.int .u8 z) := by
        rw [List.set_eq_take_append_cons_drop, if_pos (by simp; omega)]; simp
      rw [e1]
      simp only [Nat.mul_one]
      rw [List.take_set, h7]
      simp [bts]
end Go.Proofs.YtaecfcaeopmiaaaDoor
