/-
  Writers and readers in another world, under another labelling; frames of a call that may turn blocks of two labels.
-/
import Derived.Test.YtniiigidedcpaaaRefS
namespace Go.Proofs.Ytniiigidedcpaaa
open Go.RowKit

theorem IsW.moves {ρ ρ' : Nat → Nat} {i : Nat} {w w' : World} {wb : Nat} {l : List Int} {lim e : Int} (h : IsW ρ i w wb l lim e) (hb : ∀ k, k < w.heap.size → ρ k = i → w'.heap[k]? = w.heap[k]?) (hl : ∀ k, k < w.heap.size → ρ' k = ρ k) : IsW ρ' i w' wb l lim e := by
  obtain ⟨h1, h2, h3, h4, h5, ov, h6, h7, h8⟩ := h
  have hw := lt_of_block h6
  exact ⟨by rw [hl _ hw]; exact h1, h2, h3, h4, h5, ov, by rw [hb _ hw h1]; exact h6, own_move h7 fun b hb' hlt => hb b hlt (h8 b hb'), fun b hb' => by rw [hl _ (own_lt h7 hb')]; exact h8 b hb'⟩
theorem IsM.moves {ρ ρ' : Nat → Nat} {i : Nat} {w w' : World} {wb : Nat} {l : List Int} {lim e : Int} (h : IsM ρ i w wb l lim e) (hb : ∀ k, k < w.heap.size → ρ k = i → w'.heap[k]? = w.heap[k]?) (hl : ∀ k, k < w.heap.size → ρ' k = ρ k) : IsM ρ' i w' wb l lim e := by
  obtain ⟨h1, h2, h3, h4, h5, ov, h6, h7, h8⟩ := h
  have hw := lt_of_block h6
  exact ⟨by rw [hl _ hw]; exact h1, h2, h3, h4, h5, ov, by rw [hb _ hw h1]; exact h6, own_move h7 fun b hb' hlt => hb b hlt (h8 b hb'), fun b hb' => by rw [hl _ (own_lt h7 hb')]; exact h8 b hb'⟩
theorem IsR.moves {ρ ρ' : Nat → Nat} {i : Nat} {w w' : World} {rb : Nat} {l : List Int} {e : Int} (h : IsR ρ i w rb l e) (hb : ∀ k, k < w.heap.size → ρ k = i → w'.heap[k]? = w.heap[k]?) (hl : ∀ k, k < w.heap.size → ρ' k = ρ k) : IsR ρ' i w' rb l e := by
  obtain ⟨h1, hn, sv, h2, h3, h4⟩ := h
  have hw := lt_of_block h2
  exact ⟨by rw [hl _ hw]; exact h1, hn, sv, by rw [hb _ hw h1]; exact h2, h3.move fun hne b hb' hlt => hb b hlt (h4 hne b hb'), fun hne b hb' => by rw [hl _ (h3.lt hne hb')]; exact h4 hne b hb'⟩

/-- w' is w, but for blocks of the labels in L, and new ones -/
structure FrL (ρ : Nat → Nat) (L : List Nat) (w w' : World) : Prop where
  os : w'.os = w.os
  tape : w'.tape = w.tape
  output : w'.output = w.output
  size : w.heap.size ≤ w'.heap.size
  block : ∀ k, k < w.heap.size → ρ k ∉ L → w'.heap[k]? = w.heap[k]?
theorem FrL.refl (ρ : Nat → Nat) (L : List Nat) (w : World) : FrL ρ L w w := ⟨rfl, rfl, rfl, Nat.le_refl _, fun _ _ _ => rfl⟩
theorem FrL.of {ρ : Nat → Nat} {i : Nat} {L : List Nat} {w w' : World} (h : FrO ρ i w w') (hi : i ∈ L) : FrL ρ L w w' :=
  ⟨h.os, h.tape, h.output, h.size, fun k hk hn => h.block k hk fun e => hn (by rw [e]; exact hi)⟩
theorem FrL.of_below {ρ : Nat → Nat} {L : List Nat} {w w' : World} (h : Below w.heap.size w w') : FrL ρ L w w' := ⟨h.os, h.tape, h.output, h.size, fun k hk _ => h.block k hk⟩
theorem FrL.of_same {ρ : Nat → Nat} {L : List Nat} {w w' : World} (h : Same w w') : FrL ρ L w w' := ⟨h.os, h.tape, h.output, by rw [h.heap]; exact Nat.le_refl _, fun k _ _ => by rw [h.heap]⟩
/-- two frames in a row; the second speaks of labels that say the same of what was there -/
theorem FrL.trans {ρ ρ' : Nat → Nat} {L : List Nat} {a b c : World} (h : FrL ρ L a b) (k : FrL ρ' L b c) (hl : ∀ j, j < a.heap.size → ρ' j = ρ j) : FrL ρ L a c :=
  ⟨k.os.trans h.os, k.tape.trans h.tape, k.output.trans h.output, Nat.le_trans h.size k.size, fun j hj hn =>
    (k.block j (Nat.lt_of_lt_of_le hj h.size) (by rw [hl j hj]; exact hn)).trans (h.block j hj hn)⟩
theorem FrL.bel {ρ : Nat → Nat} {L : List Nat} {a b c : World} (h : FrL ρ L a b) (k : Below a.heap.size b c) : FrL ρ L a c :=
  ⟨k.os.trans h.os, k.tape.trans h.tape, k.output.trans h.output, Nat.le_trans h.size k.size, fun j hj hn => (k.block j hj).trans (h.block j hj hn)⟩
theorem FrL.below {ρ : Nat → Nat} {L : List Nat} {B : Nat} {w w' : World} (h : FrL ρ L w w') (hB : B ≤ w.heap.size) (hl : ∀ k, k < B → ρ k ∉ L) : Below B w w' :=
  ⟨h.os, h.tape, h.output, h.size, fun k hk => h.block k (Nat.lt_of_lt_of_le hk hB) (hl k hk)⟩
theorem Cx.stepL {w0 w w' : World} {ρ ρ' : Nat → Nat} {L : List Nat} (h : Cx w0 ρ w) (hf : FrL ρ L w w') (hi : 0 ∉ L) (hl : ∀ j, j < w.heap.size → ρ' j = ρ j) : Cx w0 ρ' w' :=
  ⟨h.bel.trans (hf.below h.bel.size fun k hk => by rw [h.lab k hk]; exact hi), fun k hk => by rw [hl k (Nat.lt_of_lt_of_le hk h.bel.size)]; exact h.lab k hk⟩

/-- a block that holds no bytes is none of a row of bytes -/
theorem trow_ne {w : World} {b g base : Nat} {cs : Array Value} {t : TypeId} {fr : Nat × Nat} {v : Value} {n : Nat} {xs : List Value} (ht : t ≠ 5) (h6 : w.heap[b]? = some (.cells cs t fr)) (h7 : w.ownsRow base 5 1 v n xs) (hb : v.ownBlock = some g) : g ≠ b := by
  intro e
  subst e
  rcases h7.2 with ⟨rfl, _⟩ | ⟨g', cap', cur, rfl, _, hg, _⟩
  · simp [Value.ownBlock] at hb
  · simp only [Value.ownBlock, Option.some.injEq] at hb
    subst hb
    have := hg.symm.trans h6
    simp only [Option.some.injEq, Obj.cells.injEq] at this
    exact ht this.2.1.symm
theorem tblock_grown {w w2 : World} {b base : Nat} {cs : Array Value} {t : TypeId} {fr : Nat × Nat} {v : Value} {n : Nat} {xs : List Value} (ht : t ≠ 5) (h6 : w.heap[b]? = some (.cells cs t fr)) (h7 : w.ownsRow base 5 1 v n xs)
    (hg : w.grownBy w2 v.ownBlock) : w2.heap[b]? = some (.cells cs t fr) := by
  rw [hg.block b (lt_of_block h6) (fun e => trow_ne ht h6 h7 e.symm rfl)]
  exact h6
theorem cells5 {w : World} {b : Nat} {u v x y z : Value} {t : TypeId} (h : w.heap[b]? = some (.cells #[u, v, x, y, z] t (0, 0))) :
    w.cell? ⟨b, 0, none⟩ = some u ∧ w.cell? ⟨b, 1, none⟩ = some v ∧ w.cell? ⟨b, 2, none⟩ = some x ∧ w.cell? ⟨b, 3, none⟩ = some y ∧ w.cell? ⟨b, 4, none⟩ = some z ∧
      w.frozen? ⟨b, 0, none⟩ = false ∧ w.frozen? ⟨b, 1, none⟩ = false ∧ w.frozen? ⟨b, 2, none⟩ = false ∧ w.frozen? ⟨b, 3, none⟩ = false ∧ w.frozen? ⟨b, 4, none⟩ = false := by
  refine ⟨?_, ?_, ?_, ?_, ?_, ?_, ?_, ?_, ?_, ?_⟩ <;> simp [World.cell?, World.frozen?, h]
theorem lit_bytes {l : List Int} (h : (l.all fun x => decide (0 ≤ x) && decide (x ≤ 255)) = true) : Byt l := fun x hx => by
  have := List.all_eq_true.1 h x hx
  simpa using this

/-- an append behind a guard that says yes -/
theorem wpList_append_bytesG {P : Program} {w : World} {ops : Array Oper} {rest : List Oper} {o : Oper} {a : Act} {Q : Exit → Act → World → Prop} (hgd : Region.wanted o (yielded ops a.tmps) = true) (s x : Operand) (t : TypeId)
    (ho : o.op = .call { callee := .builtin .append, args := #[s, x], argTypes := #[t, t] })
    (base : Nat) (e : TypeId) (i : TypeInfo) (z : Value) (ht : P.underlying t = some (.slice e)) (hi : P.info? e = some i) (hz : i.zero = some z)
    (hsize : i.size = 1) (hby : i.bytes = 1) (hzs : z.cells.size = 1)
    (v : Value) (n : Nat) (xs : List Value) (hs : a.eval s = v) (hown : w.ownsRow base e 1 v n xs)
    (xv : Value) (m : List Int) (hx : a.eval x = xv) (hrb : Rb w xv m)
    (hbytes : n + m.length ≤ 140737488355328) (hbase : base ≤ w.heap.size)
    (h : ∀ a2 c2 w', w'.ownsRow base e 1 (.slice a2 (n + m.length) c2) (n + m.length) (xs ++ bts m) → w.grownBy w' v.ownBlock → (∀ g, (Value.slice a2 (n + m.length) c2).ownBlock = some g → v.ownBlock = some g ∨ w.heap.size ≤ g) → wpList P ops Q rest (a.put o.dst (.slice a2 (n + m.length) c2)) w') : wpList P ops Q (o :: rest) a w := by
  refine wpList_step fun K hK => ?_
  rw [if_pos hgd]
  obtain ⟨a2, c2, w', hr, h2, h3, h4⟩ := run_append_bytes (P := P) w base t o.type e i z ht hi hz hsize hby hzs v n xs hown xv m hrb hbytes hbase
  unfold Oper.wp execOp
  simp only [ho, resolve, invoke, builtin, Sem.run_bind, Sem.run_pure, Result.andThen_ok, List.map_toArray, List.map_cons, List.map_nil, hs, hx, hr]
  exact hK _ _ (h a2 c2 w' h2 h3 h4)

/-! ### the lowest bits of a whole number -/
theorem i64_and_low (n : Int) (m : Nat) (c : Int) (hc : (BitVec.ofInt 64 c).toNat = 2 ^ m - 1) (hm : m ≤ 62) : bits .and .i64 n c = n % ((2 ^ m : Nat) : Int) := by
  have key : (BitVec.ofInt 64 n &&& BitVec.ofInt 64 c).toNat = (n % ((2 ^ 64 : Nat) : Int)).toNat % 2 ^ m := by
    rw [BitVec.toNat_and, BitVec.toNat_ofInt, hc, Nat.and_two_pow_sub_one_eq_mod]
  show IntKind.i64.wrap ((BitVec.ofInt 64 n &&& BitVec.ofInt 64 c).toNat : Nat) = _
  have hlt : (n % ((2 ^ 64 : Nat) : Int)).toNat % 2 ^ m < 2 ^ 62 := Nat.lt_of_lt_of_le (Nat.mod_lt _ (Nat.two_pow_pos m)) (Nat.pow_le_pow_right (by decide) hm)
  rw [key, IntKind.wrap_i64]
  have e1 : (((n % ((2 ^ 64 : Nat) : Int)).toNat % 2 ^ m : Nat) : Int) = n % ((2 ^ m : Nat) : Int) := by
    rw [Int.natCast_emod, Int.toNat_of_nonneg (Int.emod_nonneg _ (by decide))]
    exact Int.emod_emod_of_dvd _ (by exact_mod_cast Nat.pow_dvd_pow 2 (by omega : m ≤ 64))
  rw [← e1]
  omega
theorem i64_and1 (n : Int) : bits .and .i64 n 1 = n % 2 := i64_and_low n 1 1 (by decide) (by decide)
theorem i64_and63 (n : Int) : bits .and .i64 n 63 = n % 64 := i64_and_low n 6 63 (by decide) (by decide)

end Go.Proofs.Ytniiigidedcpaaa
