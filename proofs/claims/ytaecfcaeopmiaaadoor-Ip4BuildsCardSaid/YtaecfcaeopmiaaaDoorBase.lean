/-
  Plain words that all walks of this seat use: what a slice of bytes reads as, which blocks a call may turn, rows of bytes that a call owns.
-/
import Derived.Test.YtaecfcaeopmiaaaDoorRows
import Derived.WalkKit
import Derived.WalkSpells
import Derived.WalkLawsBesides
import Derived.Laws.AppendOwnNone
import Derived.Maps.AppendAt
namespace Go.Proofs.YtaecfcaeopmiaaaDoor
open Go.RowKit

theorem Tryd.info5 : (Tryd.prog.info? 5).map (fun i => (i.zero, i.size, i.bytes)) = some (some (.int .u8 0), 1, 1) := by kernel_rfl

/-- a fact kept from the walk -/
theorem hid {p : Prop} (h : p) : Hid p := h

/-! ### lists of whole numbers -/
/-- element j; 0 where there is none. (A name of its own, so that the walk does not rewrite it.) -/
def gt (l : List Int) (j : Nat) : Int := l.getD j 0
theorem gt_eq {l : List Int} {j : Nat} (h : j < l.length) : gt l j = l[j] := by simp [gt, h]
theorem gt_some {l : List Int} {j : Nat} (h : j < l.length) : l[j]? = some (gt l j) := by simp [gt, h]
/-- all are bytes -/
def Byt (l : List Int) : Prop := ∀ x ∈ l, 0 ≤ x ∧ x ≤ 255
theorem Byt.nil : Byt [] := fun x h => by cases h
theorem Byt.bd {l : List Int} (h : Byt l) (j : Nat) : 0 ≤ gt l j ∧ gt l j ≤ 255 := by
  by_cases hj : j < l.length
  · rw [gt_eq hj]; exact h _ (List.getElem_mem hj)
  · have : gt l j = 0 := by simp [gt, hj]
    omega
theorem Byt.append {l m : List Int} (h : Byt l) (k : Byt m) : Byt (l ++ m) := fun x hx => (List.mem_append.1 hx).elim (h x) (k x)
theorem Byt.one {x : Int} (h0 : 0 ≤ x) (h1 : x ≤ 255) : Byt [x] := fun y hy => by simp at hy; subst hy; exact ⟨h0, h1⟩
theorem Byt.take {l : List Int} (h : Byt l) (n : Nat) : Byt (l.take n) := fun x hx => h x (List.mem_of_mem_take hx)
theorem Byt.drop {l : List Int} (h : Byt l) (n : Nat) : Byt (l.drop n) := fun x hx => h x (List.mem_of_mem_drop hx)
theorem Byt.set {l : List Int} (h : Byt l) (n : Nat) {x : Int} (h0 : 0 ≤ x) (h1 : x ≤ 255) : Byt (l.set n x) := fun y hy => by
  rcases List.mem_or_eq_of_mem_set hy with h' | rfl
  · exact h y h'
  · exact ⟨h0, h1⟩
/-- the cells of a list of bytes -/
def bts (l : List Int) : List Value := l.map (Value.int .u8)
theorem bts_nil : bts [] = [] := rfl
theorem bts_append (l m : List Int) : bts (l ++ m) = bts l ++ bts m := by simp [bts]
theorem bts_length (l : List Int) : (bts l).length = l.length := by simp [bts]
theorem bts_get (l : List Int) (j : Nat) : (bts l)[j]? = (l[j]?).map (Value.int .u8) := by simp [bts]
theorem bts_some {l : List Int} {j : Nat} (h : j < l.length) : (bts l)[j]? = some (.int .u8 (gt l j)) := by rw [bts_get, gt_some h]; rfl
theorem bts_one (l : List Int) : ∀ u ∈ bts l, u.oneCell' = true := ints_oneCell .u8 l
theorem bts_take (l : List Int) (n : Nat) : bts (l.take n) = (bts l).take n := by simp [bts, List.map_take]

/-! ### frames -/
/-- w' is w, but for blocks of the label i, and new ones -/
structure FrO (ρ : Nat → Nat) (i : Nat) (w w' : World) : Prop where
  os : w'.os = w.os
  tape : w'.tape = w.tape
  output : w'.output = w.output
  size : w.heap.size ≤ w'.heap.size
  block : ∀ k, k < w.heap.size → ρ k ≠ i → w'.heap[k]? = w.heap[k]?
/-- new blocks get the label i -/
def ext (ρ : Nat → Nat) (n i : Nat) : Nat → Nat := fun k => if k < n then ρ k else i
theorem ext_old {ρ : Nat → Nat} {n i k : Nat} (h : k < n) : ext ρ n i k = ρ k := by simp [ext, h]
theorem ext_new {ρ : Nat → Nat} {n i k : Nat} (h : n ≤ k) : ext ρ n i k = i := by simp [ext, Nat.not_lt.2 h]
theorem ext_ext {ρ : Nat → Nat} {n m i : Nat} (h : n ≤ m) : ext (ext ρ n i) m i = ext ρ n i := by
  funext k; simp only [ext]; split
  · rfl
  · rw [if_neg (by omega)]
theorem FrO.refl (ρ : Nat → Nat) (i : Nat) (w : World) : FrO ρ i w w := ⟨rfl, rfl, rfl, Nat.le_refl _, fun _ _ _ => rfl⟩
theorem FrO.of_below {ρ : Nat → Nat} {i : Nat} {w w' : World} (h : Below w.heap.size w w') : FrO ρ i w w' := ⟨h.os, h.tape, h.output, h.size, fun k hk _ => h.block k hk⟩
theorem FrO.trans {ρ : Nat → Nat} {i : Nat} {a b c : World} (h : FrO ρ i a b) (k : FrO (ext ρ a.heap.size i) i b c) : FrO ρ i a c :=
  ⟨k.os.trans h.os, k.tape.trans h.tape, k.output.trans h.output, Nat.le_trans h.size k.size, fun j hj hi =>
    (k.block j (Nat.lt_of_lt_of_le hj h.size) (by rw [ext_old hj]; exact hi)).trans (h.block j hj hi)⟩
theorem FrO.trans' {ρ : Nat → Nat} {i : Nat} {a b c : World} (h : FrO ρ i a b) (k : FrO ρ i b c) : FrO ρ i a c :=
  ⟨k.os.trans h.os, k.tape.trans h.tape, k.output.trans h.output, Nat.le_trans h.size k.size, fun j hj hi =>
    (k.block j (Nat.lt_of_lt_of_le hj h.size) hi).trans (h.block j hj hi)⟩
theorem FrO.below {ρ : Nat → Nat} {i B : Nat} {w w' : World} (h : FrO ρ i w w') (hB : B ≤ w.heap.size) (hl : ∀ k, k < B → ρ k ≠ i) : Below B w w' :=
  ⟨h.os, h.tape, h.output, h.size, fun k hk => h.block k (Nat.lt_of_lt_of_le hk hB) (hl k hk)⟩
/-- the same heap, and the same world outside: only draws were made -/
structure Same (w w' : World) : Prop where
  os : w'.os = w.os
  tape : w'.tape = w.tape
  output : w'.output = w.output
  heap : w'.heap = w.heap
theorem Same.refl (w : World) : Same w w := ⟨rfl, rfl, rfl, rfl⟩
theorem Same.drew (w : World) : Same w w.drew := ⟨rfl, rfl, rfl, rfl⟩
theorem Same.drewN (w : World) (n : Nat) : Same w (w.drewN n) := ⟨rfl, rfl, rfl, rfl⟩
theorem Same.trans {a b c : World} (h : Same a b) (k : Same b c) : Same a c := ⟨k.os.trans h.os, k.tape.trans h.tape, k.output.trans h.output, k.heap.trans h.heap⟩
theorem Same.below {w w' : World} (h : Same w w') (B : Nat) : Below B w w' := ⟨h.os, h.tape, h.output, by rw [h.heap]; exact Nat.le_refl _, fun k _ => by rw [h.heap]⟩
theorem Same.fr {w w' : World} (h : Same w w') (ρ : Nat → Nat) (i : Nat) : FrO ρ i w w' := ⟨h.os, h.tape, h.output, by rw [h.heap]; exact Nat.le_refl _, fun k _ _ => by rw [h.heap]⟩
theorem Same.cell {w w' : World} (h : Same w w') (a : Addr) : w'.cell? a = w.cell? a := by simp [World.cell?, h.heap]
theorem Same.frozen {w w' : World} (h : Same w w') (a : Addr) : w'.frozen? a = w.frozen? a := by simp [World.frozen?, h.heap]

/-- what a call that makes memory of its own has behind it: what was there when it began (in w0) is as it was, and has the label 0 -/
structure Cx (w0 : World) (ρ : Nat → Nat) (w : World) : Prop where
  bel : Below w0.heap.size w0 w
  lab : ∀ k, k < w0.heap.size → ρ k = 0
theorem Cx.refl (w : World) : Cx w (fun _ => 0) w := ⟨Below.refl _ _, fun _ _ => rfl⟩
theorem Cx.step {w0 w w' : World} {ρ : Nat → Nat} {i : Nat} (h : Cx w0 ρ w) (hf : FrO ρ i w w') (hi : i ≠ 0) (j : Nat) : Cx w0 (ext ρ w.heap.size j) w' :=
  ⟨h.bel.trans (hf.below h.bel.size fun k hk => by rw [h.lab k hk]; exact fun e => hi e.symm), fun k hk => by rw [ext_old (Nat.lt_of_lt_of_le hk h.bel.size)]; exact h.lab k hk⟩
theorem Cx.grow {w0 w w' : World} {ρ : Nat → Nat} (h : Cx w0 ρ w) (hb : Below w.heap.size w w') (j : Nat) : Cx w0 (ext ρ w.heap.size j) w' :=
  h.step (FrO.of_below (i := 1) hb) (by decide) j
theorem Cx.more {w0 w w' : World} {ρ : Nat → Nat} (h : Cx w0 ρ w) (hb : Below w.heap.size w w') : Cx w0 ρ w' := ⟨h.bel.trans (hb.mono h.bel.size), h.lab⟩
theorem Cx.step' {w0 w w' : World} {ρ : Nat → Nat} {i : Nat} (h : Cx w0 ρ w) (hf : FrO ρ i w w') (hi : i ≠ 0) : Cx w0 ρ w' :=
  ⟨h.bel.trans (hf.below h.bel.size fun k hk => by rw [h.lab k hk]; exact fun e => hi e.symm), h.lab⟩
theorem bel_alloc (w : World) (o : Obj) : Below w.heap.size w (w.alloc o) := (Below.refl _ _).alloc (Nat.le_refl _) _

/-! ### what a slice of bytes reads as -/
/-- the slice value v reads as the bytes l -/
def Rb (w : World) (v : Value) (l : List Int) : Prop :=
  Byt l ∧ ∃ a cap, v = .slice a l.length cap ∧ l.length ≤ cap ∧ cap ≤ maxLen ∧ (a = none → cap = 0) ∧
    ∀ j, j < l.length → ∃ b off, a = some ⟨b, off, none⟩ ∧ w.cell? ⟨b, off + j, none⟩ = some (.int .u8 (gt l j))
theorem Rb.nil (w : World) : Rb w (.slice none 0 0) [] := ⟨Byt.nil, none, 0, rfl, Nat.le_refl _, Nat.zero_le _, fun _ => rfl, fun _ h => absurd h (Nat.not_lt_zero _)⟩
theorem Rb.byt {w : World} {v : Value} {l : List Int} (h : Rb w v l) : Byt l := h.1
/-- opened: where it is not empty, it has an address -/
theorem Rb.open {w : World} {v : Value} {l : List Int} (h : Rb w v l) : ∃ a cap, v = .slice a l.length cap ∧ l.length ≤ cap ∧ cap ≤ maxLen ∧
    (l.length = 0 ∨ ∃ b off, a = some ⟨b, off, none⟩ ∧ ∀ j, j < l.length → w.cell? ⟨b, off + j, none⟩ = some (.int .u8 (gt l j))) := by
  obtain ⟨_, a, cap, rfl, h1, h2, _, h4⟩ := h
  refine ⟨a, cap, rfl, h1, h2, ?_⟩
  by_cases h0 : l.length = 0
  · exact Or.inl h0
  · obtain ⟨b, off, rfl, hc⟩ := h4 0 (by omega)
    refine Or.inr ⟨b, off, rfl, fun j hj => ?_⟩
    obtain ⟨b', off', e, hc'⟩ := h4 j hj
    simp only [Option.some.injEq, Addr.mk.injEq, and_true] at e
    obtain ⟨rfl, rfl⟩ := e
    exact hc'
/-- another world in which its block is the same -/
theorem Rb.move {w w' : World} {v : Value} {l : List Int} (h : Rb w v l) (hs : l ≠ [] → ∀ b, v.ownBlock = some b → b < w.heap.size → w'.heap[b]? = w.heap[b]?) : Rb w' v l := by
  obtain ⟨h0, a, cap, rfl, h1, h2, h3, h4⟩ := h
  refine ⟨h0, a, cap, rfl, h1, h2, h3, fun j hj => ?_⟩
  obtain ⟨b, off, rfl, hc⟩ := h4 j hj
  refine ⟨b, off, rfl, ?_⟩
  rw [World.cell?_of_block (w := w) (hs (by intro e; simp [e] at hj) b rfl (World.block_lt_of_cell? _ _ hc))]
  exact hc
theorem Rb.below {w w' : World} {v : Value} {l : List Int} (h : Rb w v l) (hb : Below w.heap.size w w') : Rb w' v l := h.move fun _ b _ hlt => hb.block b hlt
theorem Rb.same {w w' : World} {v : Value} {l : List Int} (h : Rb w v l) (hb : Same w w') : Rb w' v l := h.below (hb.below _)
theorem Rb.lt {w : World} {v : Value} {l : List Int} (h : Rb w v l) (hn : l ≠ []) {b : Nat} (hb : v.ownBlock = some b) : b < w.heap.size := by
  obtain ⟨a, cap, rfl, _, _, h4⟩ := h.open
  rcases h4 with h0 | ⟨b', off, rfl, hc⟩
  · exact absurd (List.length_eq_zero_iff.1 h0) hn
  · simp only [Value.ownBlock, Option.some.injEq] at hb
    subst hb
    exact World.block_lt_of_cell? _ _ (hc 0 (List.length_pos_iff.2 hn))
/-- an owned row of bytes reads as its list -/
theorem Rb.of_own {w : World} {base : Nat} {v : Value} {l : List Int} {n : Nat} (hb : Byt l) (h : w.ownsRow base 5 1 v n (bts l)) : Rb w v l := by
  have hn : n = l.length := by have := h.1; rw [bts_length] at this; omega
  subst hn
  rcases h.2 with ⟨rfl, h0⟩ | ⟨g, cap, cur, rfl, _, hg, hc, hm, _, ht⟩
  · have : l = [] := List.length_eq_zero_iff.1 h0
    subst this
    exact Rb.nil w
  · refine ⟨hb, _, cap, rfl, hc, hm, (fun e => by cases e), fun j hj => ⟨g, 0, rfl, ?_⟩⟩
    rw [Nat.zero_add]
    rw [World.ownsRow.cellAt (g := g) (cap := cap) h j (by omega), bts_some hj]

/-! ### the label of a slice's block -/
def Lab (ρ : Nat → Nat) (i : Nat) (v : Value) : Prop := ∀ b, v.ownBlock = some b → ρ b = i
theorem Lab.nil (ρ : Nat → Nat) (i : Nat) : Lab ρ i (.slice none 0 0) := fun b h => by simp [Value.ownBlock] at h

/-! ### appending -/
/-- what is known of a slice value that owns a row -/
theorem own_shape {w : World} {base e size : Nat} {v : Value} {n : Nat} {xs : List Value} (h : w.ownsRow base e size v n xs) :
    ∃ a cap, v = .slice a n cap ∧ n ≤ cap ∧ cap ≤ maxLen ∧ ((a = none ∧ n = 0 ∧ cap = 0) ∨ ∃ g, a = some ⟨g, 0, none⟩) := by
  rcases h.2 with ⟨rfl, rfl⟩ | ⟨g, cap, cur, rfl, _, _, h1, h2, _⟩
  · exact ⟨none, 0, rfl, Nat.le_refl _, Nat.zero_le _, Or.inl ⟨rfl, rfl, rfl⟩⟩
  · exact ⟨_, cap, rfl, h1, h2, Or.inr ⟨g, rfl⟩⟩
/-- 'append(s, x...)', s nil or a row of bytes of the call's own, x whatever reads as bytes -/
theorem run_append_bytes {P : Program} (w : World) (base : Nat) (t ty e : TypeId) (i : TypeInfo) (z : Value) (ht : P.underlying t = some (.slice e)) (hi : P.info? e = some i) (hz : i.zero = some z)
    (hsize : i.size = 1) (hby : i.bytes = 1) (hzs : z.cells.size = 1)
    (v : Value) (n : Nat) (xs : List Value) (hown : w.ownsRow base e 1 v n xs) (x : Value) (m : List Int) (hx : Rb w x m)
    (hbytes : n + m.length ≤ 140737488355328) (hbase : base ≤ w.heap.size) :
    ∃ a2 c2 w', (Builtin.append_ #[t, t] ty #[v, x]).run P w = .ok (.slice a2 (n + m.length) c2) w' ∧ w'.ownsRow base e 1 (.slice a2 (n + m.length) c2) (n + m.length) (xs ++ bts m) ∧ w.grownBy w' v.ownBlock ∧
      (∀ g, (Value.slice a2 (n + m.length) c2).ownBlock = some g → v.ownBlock = some g ∨ w.heap.size ≤ g) := by
  have key : ∃ v' w', (Builtin.append_ #[t, t] ty #[v, x]).run P w = .ok v' w' ∧ w'.ownsRow base e 1 v' (n + m.length) (xs ++ bts m) ∧ w.grownBy w' v.ownBlock ∧
      (v'.ownBlock = v.ownBlock ∨ v'.ownBlock = some w.heap.size) := by
    obtain ⟨_, a, cap, rfl, h1, h2, h3, h4⟩ := hx
    cases a with
    | some ad =>
      obtain ⟨v', w', hr, ho, hg, _, hat⟩ := run_append_own_at (P := P) w base t ty e i z 1 1 ht hi hz hsize hby hzs (by decide) v n xs hown ad m.length cap (bts m) (by rw [bts_length]; omega) (fun j u hu => by
        have hj : j < m.length := by have := (List.getElem?_eq_some_iff.1 hu).1; rwa [bts_length] at this
        obtain ⟨b, off, e', hc⟩ := h4 j hj
        obtain rfl : ad = ⟨b, off, none⟩ := by simpa using e'
        rw [bts_some hj] at hu
        rw [← Option.some.inj hu]
        rw [show (⟨b, off, none⟩ : Addr).add j = ⟨b, off + j, none⟩ from by unfold Addr.add; split <;> simp_all]; exact hc) (bts_one m) (by unfold maxLen; omega) (by omega) hbase
      exact ⟨v', w', hr, ho, hg, hat⟩
    | none =>
      have hc0 := h3 rfl
      subst hc0
      have hm0 : m = [] := List.length_eq_zero_iff.1 (by omega)
      subst hm0
      refine ⟨v, w, run_append_owned_none (P := P) (w := w) base t ty e i 1 ht hi v n xs hown, ?_, World.grownBy.refl w _, Or.inl rfl⟩
      simpa [bts] using hown
  obtain ⟨v', w', hr, ho, hg, hat⟩ := key
  obtain ⟨a2, c2, rfl, _⟩ := own_shape ho
  refine ⟨a2, c2, w', hr, ho, hg, fun g hg' => ?_⟩
  rcases hat with h | h
  · exact Or.inl (by rw [← h]; exact hg')
  · right
    rw [h] at hg'
    have := Option.some.inj hg'
    omega

theorem wpList_append_bytes {P : Program} {w : World} {ops : Array Oper} {rest : List Oper} {o : Oper} {a : Act} {Q : Exit → Act → World → Prop} (hgd : o.guard = none) (s x : Operand) (t : TypeId)
    (ho : o.op = .call { callee := .builtin .append, args := #[s, x], argTypes := #[t, t] })
    (base : Nat) (e : TypeId) (i : TypeInfo) (z : Value) (ht : P.underlying t = some (.slice e)) (hi : P.info? e = some i) (hz : i.zero = some z)
    (hsize : i.size = 1) (hby : i.bytes = 1) (hzs : z.cells.size = 1)
    (v : Value) (n : Nat) (xs : List Value) (hs : a.eval s = v) (hown : w.ownsRow base e 1 v n xs)
    (xv : Value) (m : List Int) (hx : a.eval x = xv) (hrb : Rb w xv m)
    (hbytes : n + m.length ≤ 140737488355328) (hbase : base ≤ w.heap.size)
    (h : ∀ a2 c2 w', w'.ownsRow base e 1 (.slice a2 (n + m.length) c2) (n + m.length) (xs ++ bts m) → w.grownBy w' v.ownBlock → (∀ g, (Value.slice a2 (n + m.length) c2).ownBlock = some g → v.ownBlock = some g ∨ w.heap.size ≤ g) → wpList P ops Q rest (a.put o.dst (.slice a2 (n + m.length) c2)) w') : wpList P ops Q (o :: rest) a w := by
  refine wpList_plain hgd (fun K hK => ?_)
  obtain ⟨a2, c2, w', hr, h2, h3, h4⟩ := run_append_bytes (P := P) w base t o.type e i z ht hi hz hsize hby hzs v n xs hown xv m hrb hbytes hbase
  unfold Oper.wp execOp
  simp only [ho, resolve, invoke, builtin, Sem.run_bind, Sem.run_pure, Result.andThen_ok, List.map_toArray, List.map_cons, List.map_nil, hs, hx, hr]
  exact hK _ _ (h a2 c2 w' h2 h3 h4)

/-- the same as a step of a region that draws its order -/
theorem step_append_bytes {P : Program} {w : World} {ops : Array Oper} {o : Oper} {a : Act} {K : Act → World → Prop} {Q : Exit → Act → World → Prop} {E : Prop} (hgd : o.guard = none) (s x : Operand) (t : TypeId)
    (ho : o.op = .call { callee := .builtin .append, args := #[s, x], argTypes := #[t, t] })
    (base : Nat) (e : TypeId) (i : TypeInfo) (z : Value) (ht : P.underlying t = some (.slice e)) (hi : P.info? e = some i) (hz : i.zero = some z)
    (hsize : i.size = 1) (hby : i.bytes = 1) (hzs : z.cells.size = 1)
    (v : Value) (n : Nat) (xs : List Value) (hs : a.eval s = v) (hown : w.ownsRow base e 1 v n xs)
    (xv : Value) (m : List Int) (hx : a.eval x = xv) (hrb : Rb w xv m)
    (hbytes : n + m.length ≤ 140737488355328) (hbase : base ≤ w.heap.size)
    (h : ∀ a2 c2 w', w'.ownsRow base e 1 (.slice a2 (n + m.length) c2) (n + m.length) (xs ++ bts m) → w.grownBy w' v.ownBlock → (∀ g, (Value.slice a2 (n + m.length) c2).ownBlock = some g → v.ownBlock = some g ∨ w.heap.size ≤ g) → K (a.put o.dst (.slice a2 (n + m.length) c2)) w') :
    if Region.wanted o (yielded ops a.tmps) = true then Oper.wp P o a w K Q else E := by
  have hw : Region.wanted o (yielded ops a.tmps) = true := by simp [Region.wanted, hgd]
  rw [if_pos hw]
  obtain ⟨a2, c2, w', hr, h2, h3, h4⟩ := run_append_bytes (P := P) w base t o.type e i z ht hi hz hsize hby hzs v n xs hown xv m hrb hbytes hbase
  unfold Oper.wp execOp
  simp only [ho, resolve, invoke, builtin, Sem.run_bind, Sem.run_pure, Result.andThen_ok, List.map_toArray, List.map_cons, List.map_nil, hs, hx, hr]
  exact h a2 c2 w' h2 h3 h4

/-- a block of bytes that was just laid reads as its list -/
theorem Rb.new {w : World} {cs : Array Value} {fr : Nat × Nat} {b : Nat} {l : List Int} {n : Nat} (hb : Byt l) (hh : w.heap[b]? = some (.cells cs 5 fr)) (hc : cs.toList = bts l) (hn : n = l.length) (hm : n ≤ maxLen) : Rb w (.slice (some ⟨b, 0, none⟩) n n) l := by
  subst hn
  refine ⟨hb, _, _, rfl, Nat.le_refl _, hm, (fun e => by cases e), fun j hj => ⟨b, 0, rfl, ?_⟩⟩
  have := bts_some hj
  rw [← hc] at this
  simp only [World.cell?, hh, Nat.zero_add]
  simpa using this

/-! ### parts of a slice -/
/-- where a part of a slice of cells of one each begins -/
def subA (a : Option Addr) (i cap : Nat) : Option Addr := if cap = i then a else a.map (·.add i)
theorem size1 {P : Program} {e : TypeId} {i : TypeInfo} (hi : P.info? e = some i) (h1 : i.size = 1) (w : World) : (sizeOf e).run P w = .ok 1 w := by
  simp [sizeOf, typeInfo, hi, h1]
theorem run_slice_lh_sub {P : Program} (t e : TypeId) (hu : P.underlying t = some (.slice e)) {ti : TypeInfo} (hi : P.info? e = some ti) (h1 : ti.size = 1) (a : Option Addr) (len cap : Nat) (k k' : IntKind) (x y : Int) (i j : Nat) (hx : x = i) (hy : y = j) (hij : i ≤ j) (hj : j ≤ cap) (w : World) :
    (Instr.slice t (.slice a len cap) (some (.int k x)) (some (.int k' y)) none).run P w = .ok (.slice (subA a i cap) (j - i) (cap - i)) w := by
  subst hx; subst hy
  simp [Instr.slice, run_underlying hu, Instr.sliceBounds, Instr.sliceBound, hij, hj, size1 hi h1, subA, asIntOf]
theorem run_slice_l_sub {P : Program} (t e : TypeId) (hu : P.underlying t = some (.slice e)) {ti : TypeInfo} (hi : P.info? e = some ti) (h1 : ti.size = 1) (a : Option Addr) (len cap : Nat) (k : IntKind) (x : Int) (i : Nat) (hx : x = i) (hij : i ≤ len) (w : World) :
    (Instr.slice t (.slice a len cap) (some (.int k x)) none none).run P w = .ok (.slice (subA a i cap) (len - i) (cap - i)) w := by
  subst hx
  simp [Instr.slice, run_underlying hu, Instr.sliceBounds, Instr.sliceBound, hij, size1 hi h1, subA, asIntOf]
theorem run_slice_h_sub {P : Program} (t e : TypeId) (hu : P.underlying t = some (.slice e)) {ti : TypeInfo} (hi : P.info? e = some ti) (h1 : ti.size = 1) (a : Option Addr) (len cap : Nat) (k : IntKind) (x : Int) (i : Nat) (hx : x = i) (hij : i ≤ cap) (w : World) :
    (Instr.slice t (.slice a len cap) none (some (.int k x)) none).run P w = .ok (.slice a i cap) w := by
  subst hx
  have hm : (if cap = 0 then a else a.map (fun x => x.add 0)) = a := by
    split
    · rfl
    · cases a <;> simp [Addr.add]
  simp [Instr.slice, run_underlying hu, Instr.sliceBounds, Instr.sliceBound, hij, size1 hi h1, asIntOf, hm]
theorem subA_block {a : Option Addr} {i cap b : Nat} {n c : Nat} {n' c' : Nat} (h : (Value.slice (subA a i cap) n c).ownBlock = some b) : (Value.slice a n' c').ownBlock = some b := by
  unfold subA at h
  split at h
  · cases a <;> simp_all [Value.ownBlock]
  · cases a with
    | none => simp [Value.ownBlock] at h
    | some ad =>
      simp only [Option.map_some, Value.ownBlock, Option.some.injEq] at h ⊢
      rw [← h]
      unfold Addr.add
      split <;> rfl
/-- a part of what is read reads as the part -/
theorem Rb.sub {w : World} {a : Option Addr} {n cap : Nat} {l : List Int} (h : Rb w (.slice a n cap) l) (i j : Nat) (hij : i ≤ j) (hj : j ≤ l.length) : Rb w (.slice (subA a i cap) (j - i) (cap - i)) ((l.drop i).take (j - i)) := by
  obtain ⟨h0, a', cap', e, h1, h2, h3, h4⟩ := h
  simp only [Value.slice.injEq] at e
  obtain ⟨rfl, rfl, rfl⟩ := e
  have hlen : ((l.drop i).take (j - i)).length = j - i := by simp; omega
  refine ⟨(h0.drop i).take _, subA a i cap, cap - i, by rw [hlen], by rw [hlen]; omega, by omega, fun hn => ?_, fun m hm => ?_⟩
  · unfold subA at hn
    split at hn
    · rename_i e; omega
    · cases a with
      | none => have := h3 rfl; omega
      | some ad => simp at hn
  · rw [hlen] at hm
    obtain ⟨b, off, rfl, hc⟩ := h4 (i + m) (by omega)
    refine ⟨b, off + i, ?_, ?_⟩
    · unfold subA
      rw [if_neg (by omega)]
      simp only [Option.map_some, Option.some.injEq]
      unfold Addr.add
      split <;> simp_all
    · rw [show off + i + m = off + (i + m) by omega, hc]
      congr 2
      simp only [gt, List.getD_eq_getElem?_getD]
      rw [List.getElem?_take, if_pos hm, List.getElem?_drop]
theorem Rb.front {w : World} {a : Option Addr} {n cap : Nat} {l : List Int} (h : Rb w (.slice a n cap) l) (j : Nat) (hj : j ≤ l.length) : Rb w (.slice a j cap) (l.take j) := by
  obtain ⟨h0, a', cap', e, h1, h2, h3, h4⟩ := h
  simp only [Value.slice.injEq] at e
  obtain ⟨rfl, rfl, rfl⟩ := e
  have hlen : (l.take j).length = j := by simp; omega
  refine ⟨h0.take _, a, cap, by rw [hlen], by rw [hlen]; omega, h2, h3, fun m hm => ?_⟩
  rw [hlen] at hm
  obtain ⟨b, off, rfl, hc⟩ := h4 m (by omega)
  refine ⟨b, off, rfl, ?_⟩
  rw [hc]
  congr 2
  simp only [gt, List.getD_eq_getElem?_getD]
  rw [List.getElem?_take, if_pos hm]
theorem Rb.back {w : World} {a : Option Addr} {n cap : Nat} {l : List Int} (h : Rb w (.slice a n cap) l) (i : Nat) (hi : i ≤ l.length) : Rb w (.slice (subA a i cap) (l.length - i) (cap - i)) (l.drop i) := by
  have := h.sub i l.length hi (Nat.le_refl _)
  rwa [List.take_of_length_le (by simp)] at this

end Go.Proofs.YtaecfcaeopmiaaaDoor
