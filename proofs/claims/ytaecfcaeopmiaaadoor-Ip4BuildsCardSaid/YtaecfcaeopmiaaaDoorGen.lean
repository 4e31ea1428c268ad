/-
  Words that the walks of all chapters use: frames of several labels, owned rows in another world, append with both slices kept, appends behind a guard.
-/
import Derived.Test.YtaecfcaeopmiaaaDoorBase
import Derived.Deep.QuietTactic
import Derived.BigQuiet
import Derived.Deep.RegionHeld3
import Derived.Deep.RegionLaw
import Derived.Deep.LoopGhost
import Derived.Deep.CutBlock
import Derived.Deep.DeepCutAuto
namespace Go.Proofs.YtaecfcaeopmiaaaDoor
open Go.RowKit

/-- three cells of a block -/
theorem cells3 {w : World} {b : Nat} {u v x : Value} {t : TypeId} (h : w.heap[b]? = some (.cells #[u, v, x] t (0, 0))) :
    w.cell? ⟨b, 0, none⟩ = some u ∧ w.cell? ⟨b, 1, none⟩ = some v ∧ w.cell? ⟨b, 2, none⟩ = some x ∧ w.frozen? ⟨b, 0, none⟩ = false ∧ w.frozen? ⟨b, 1, none⟩ = false ∧ w.frozen? ⟨b, 2, none⟩ = false := by
  refine ⟨?_, ?_, ?_, ?_, ?_, ?_⟩ <;> simp [World.cell?, World.frozen?, h]
theorem cells2 {w : World} {b : Nat} {u v : Value} {t : TypeId} (h : w.heap[b]? = some (.cells #[u, v] t (0, 0))) :
    w.cell? ⟨b, 0, none⟩ = some u ∧ w.cell? ⟨b, 1, none⟩ = some v ∧ w.frozen? ⟨b, 0, none⟩ = false ∧ w.frozen? ⟨b, 1, none⟩ = false := by
  refine ⟨?_, ?_, ?_, ?_⟩ <;> simp [World.cell?, World.frozen?, h]
/-- a block behind a store into it -/
theorem heap_store {w : World} {b o : Nat} {cs : Array Value} {t : TypeId} {fr : Nat × Nat} (h : w.heap[b]? = some (.cells cs t fr)) (u : Value) :
    (w.setCell ⟨b, o, none⟩ u).heap[b]? = some (.cells (cs.setIfInBounds o u) t fr) := by
  have hlt := lt_of_block h
  have h' : w.heap[b] = .cells cs t fr := by simpa [Array.getElem?_eq_getElem hlt] using h
  show (w.heap.modify b _)[b]? = _
  rw [Array.getElem?_eq_getElem (by simpa using hlt), Array.getElem_modify_self, h']
  rfl
theorem FrO.setCell {ρ : Nat → Nat} {i : Nat} {w : World} {a : Addr} (h : ρ a.block = i) (u : Value) : FrO ρ i w (w.setCell a u) :=
  ⟨rfl, rfl, rfl, by simp [World.setCell], fun k _ hi => Below.heap_setCell _ _ _ _ (fun e => hi (e ▸ h))⟩
theorem FrO.alloc (ρ : Nat → Nat) (i : Nat) (w : World) (o : Obj) : FrO ρ i w (w.alloc o) :=
  ⟨rfl, rfl, rfl, by simp, fun k hk _ => Below.heap_alloc _ _ _ hk⟩
theorem FrO.grown {ρ : Nat → Nat} {i : Nat} {w w' : World} {row : Option Nat} (h : w.grownBy w' row) (hr : ∀ g, row = some g → ρ g = i) : FrO ρ i w w' :=
  ⟨h.os, h.tape, h.output, h.size, fun k hk hi => h.block k hk (fun e => hi (hr k e.symm))⟩
/-- an owned row is still owned where its block has not turned -/
theorem own_move {w w' : World} {base e size : Nat} {v : Value} {n : Nat} {xs : List Value} (h : w.ownsRow base e size v n xs) (hs : ∀ b, v.ownBlock = some b → b < w.heap.size → w'.heap[b]? = w.heap[b]?) : w'.ownsRow base e size v n xs := by
  refine ⟨h.1, ?_⟩
  rcases h.2 with hn | ⟨g, cap, cur, rfl, hb, hg, r⟩
  · exact Or.inl hn
  · exact Or.inr ⟨g, cap, cur, rfl, hb, by rw [hs g rfl (lt_of_block hg)]; exact hg, r⟩
theorem own_same {w w' : World} {base e size : Nat} {v : Value} {n : Nat} {xs : List Value} (h : w.ownsRow base e size v n xs) (hs : Same w w') : w'.ownsRow base e size v n xs := own_move h fun b _ _ => by rw [hs.heap]
theorem own_below {w w' : World} {base e size : Nat} {v : Value} {n : Nat} {xs : List Value} (h : w.ownsRow base e size v n xs) (hs : Below w.heap.size w w') : w'.ownsRow base e size v n xs := own_move h fun b _ hlt => hs.block b hlt
theorem own_lt {w : World} {base e size : Nat} {v : Value} {n : Nat} {xs : List Value} (h : w.ownsRow base e size v n xs) {b : Nat} (hb : v.ownBlock = some b) : b < w.heap.size := (h.lt b hb).2
theorem own_base {w : World} {base base' e size : Nat} {v : Value} {n : Nat} {xs : List Value} (h : w.ownsRow base e size v n xs) (hb : base' ≤ base) : w.ownsRow base' e size v n xs := by
  refine ⟨h.1, ?_⟩
  rcases h.2 with hn | ⟨g, cap, cur, rfl, hbg, r⟩
  · exact Or.inl hn
  · exact Or.inr ⟨g, cap, cur, rfl, Nat.le_trans hb hbg, r⟩
theorem take_snoc {l : List Int} {k : Nat} (h : k < l.length) : l.take (k + 1) = l.take k ++ [gt l k] := by
  rw [List.take_succ_eq_append_getElem h, gt_eq h]

/-- w' is w, but for blocks of the labels in L, and new ones -/
structure FrL (ρ : Nat → Nat) (L : List Nat) (w w' : World) : Prop where
  os : w'.os = w.os
  tape : w'.tape = w.tape
  output : w'.output = w.output
  size : w.heap.size ≤ w'.heap.size
  block : ∀ k, k < w.heap.size → ρ k ∉ L → w'.heap[k]? = w.heap[k]?
theorem FrL.refl (ρ : Nat → Nat) (L : List Nat) (w : World) : FrL ρ L w w := ⟨rfl, rfl, rfl, Nat.le_refl _, fun _ _ _ => rfl⟩
theorem FrL.of {ρ : Nat → Nat} {i : Nat} {L : List Nat} {w w' : World} (h : FrO ρ i w w') (hi : i ∈ L) : FrL ρ L w w' :=
  ⟨h.os, h.tape, h.output, h.size, fun k hk hn => h.block k hk fun e => hn (by rw [e]; exact hi)⟩
theorem FrL.of_below {ρ : Nat → Nat} {L : List Nat} {w w' : World} (h : Below w.heap.size w w') : FrL ρ L w w' := ⟨h.os, h.tape, h.output, h.size, fun k hk _ => h.block k hk⟩
theorem FrL.of_same {ρ : Nat → Nat} {L : List Nat} {w w' : World} (h : Same w w') : FrL ρ L w w' := ⟨h.os, h.tape, h.output, by rw [h.heap]; exact Nat.le_refl _, fun k _ _ => by rw [h.heap]⟩
/-- two frames in a row; the second speaks of labels that say the same of what was there -/
theorem FrL.trans {ρ ρ' : Nat → Nat} {L : List Nat} {a b c : World} (h : FrL ρ L a b) (k : FrL ρ' L b c) (hl : ∀ j, j < a.heap.size → ρ' j = ρ j) : FrL ρ L a c :=
  ⟨k.os.trans h.os, k.tape.trans h.tape, k.output.trans h.output, Nat.le_trans h.size k.size, fun j hj hn =>
    (k.block j (Nat.lt_of_lt_of_le hj h.size) (by rw [hl j hj]; exact hn)).trans (h.block j hj hn)⟩
theorem FrL.bel {ρ : Nat → Nat} {L : List Nat} {a b c : World} (h : FrL ρ L a b) (k : Below a.heap.size b c) : FrL ρ L a c :=
  ⟨k.os.trans h.os, k.tape.trans h.tape, k.output.trans h.output, Nat.le_trans h.size k.size, fun j hj hn => (k.block j hj).trans (h.block j hj hn)⟩
theorem FrL.below {ρ : Nat → Nat} {L : List Nat} {B : Nat} {w w' : World} (h : FrL ρ L w w') (hB : B ≤ w.heap.size) (hl : ∀ k, k < B → ρ k ∉ L) : Below B w w' :=
  ⟨h.os, h.tape, h.output, h.size, fun k hk => h.block k (Nat.lt_of_lt_of_le hk hB) (hl k hk)⟩
theorem Cx.stepL {w0 w w' : World} {ρ ρ' : Nat → Nat} {L : List Nat} (h : Cx w0 ρ w) (hf : FrL ρ L w w') (hi : 0 ∉ L) (hl : ∀ j, j < w.heap.size → ρ' j = ρ j) : Cx w0 ρ' w' :=
  ⟨h.bel.trans (hf.below h.bel.size fun k hk => by rw [h.lab k hk]; exact hi), fun k hk => by rw [hl k (Nat.lt_of_lt_of_le hk h.bel.size)]; exact h.lab k hk⟩

/-- a block that holds no bytes is none of a row of bytes -/
theorem trow_ne {w : World} {b g base : Nat} {cs : Array Value} {t : TypeId} {fr : Nat × Nat} {v : Value} {n : Nat} {xs : List Value} (ht : t ≠ 5) (h6 : w.heap[b]? = some (.cells cs t fr)) (h7 : w.ownsRow base 5 1 v n xs) (hb : v.ownBlock = some g) : g ≠ b := by
  intro e
  subst e
  rcases h7.2 with ⟨rfl, _⟩ | ⟨g', cap', cur, rfl, _, hg, _⟩
  · simp [Value.ownBlock] at hb
  · simp only [Value.ownBlock, Option.some.injEq] at hb
    subst hb
    have := hg.symm.trans h6
    simp only [Option.some.injEq, Obj.cells.injEq] at this
    exact ht this.2.1.symm
theorem tblock_grown {w w2 : World} {b base : Nat} {cs : Array Value} {t : TypeId} {fr : Nat × Nat} {v : Value} {n : Nat} {xs : List Value} (ht : t ≠ 5) (h6 : w.heap[b]? = some (.cells cs t fr)) (h7 : w.ownsRow base 5 1 v n xs)
    (hg : w.grownBy w2 v.ownBlock) : w2.heap[b]? = some (.cells cs t fr) := by
  rw [hg.block b (lt_of_block h6) (fun e => trow_ne ht h6 h7 e.symm rfl)]
  exact h6
theorem cells5 {w : World} {b : Nat} {u v x y z : Value} {t : TypeId} (h : w.heap[b]? = some (.cells #[u, v, x, y, z] t (0, 0))) :
    w.cell? ⟨b, 0, none⟩ = some u ∧ w.cell? ⟨b, 1, none⟩ = some v ∧ w.cell? ⟨b, 2, none⟩ = some x ∧ w.cell? ⟨b, 3, none⟩ = some y ∧ w.cell? ⟨b, 4, none⟩ = some z ∧
      w.frozen? ⟨b, 0, none⟩ = false ∧ w.frozen? ⟨b, 1, none⟩ = false ∧ w.frozen? ⟨b, 2, none⟩ = false ∧ w.frozen? ⟨b, 3, none⟩ = false ∧ w.frozen? ⟨b, 4, none⟩ = false := by
  refine ⟨?_, ?_, ?_, ?_, ?_, ?_, ?_, ?_, ?_, ?_⟩ <;> simp [World.cell?, World.frozen?, h]
theorem lit_bytes {l : List Int} (h : (l.all fun x => decide (0 ≤ x) && decide (x ≤ 255)) = true) : Byt l := fun x hx => by
  have := List.all_eq_true.1 h x hx
  simpa using this

/-- an append behind a guard that says yes -/
theorem wpList_append_bytesG {P : Program} {w : World} {ops : Array Oper} {rest : List Oper} {o : Oper} {a : Act} {Q : Exit → Act → World → Prop} (hgd : Region.wanted o (yielded ops a.tmps) = true) (s x : Operand) (t : TypeId)
    (ho : o.op = .call { callee := .builtin .append, args := #[s, x], argTypes := #[t, t] })
    (base : Nat) (e : TypeId) (i : TypeInfo) (z : Value) (ht : P.underlying t = some (.slice e)) (hi : P.info? e = some i) (hz : i.zero = some z)
    (hsize : i.size = 1) (hby : i.bytes = 1) (hzs : z.cells.size = 1)
    (v : Value) (n : Nat) (xs : List Value) (hs : a.eval s = v) (hown : w.ownsRow base e 1 v n xs)
    (xv : Value) (m : List Int) (hx : a.eval x = xv) (hrb : Rb w xv m)
    (hbytes : n + m.length ≤ 140737488355328) (hbase : base ≤ w.heap.size)
    (h : ∀ a2 c2 w', w'.ownsRow base e 1 (.slice a2 (n + m.length) c2) (n + m.length) (xs ++ bts m) → w.grownBy w' v.ownBlock → (∀ g, (Value.slice a2 (n + m.length) c2).ownBlock = some g → v.ownBlock = some g ∨ w.heap.size ≤ g) → wpList P ops Q rest (a.put o.dst (.slice a2 (n + m.length) c2)) w') : wpList P ops Q (o :: rest) a w := by
  refine wpList_step fun K hK => ?_
  rw [if_pos hgd]
  obtain ⟨a2, c2, w', hr, h2, h3, h4⟩ := run_append_bytes (P := P) w base t o.type e i z ht hi hz hsize hby hzs v n xs hown xv m hrb hbytes hbase
  unfold Oper.wp execOp
  simp only [ho, resolve, invoke, builtin, Sem.run_bind, Sem.run_pure, Result.andThen_ok, List.map_toArray, List.map_cons, List.map_nil, hs, hx, hr]
  exact hK _ _ (h a2 c2 w' h2 h3 h4)

/-! ### the lowest bits of a whole number -/
theorem i64_and_low (n : Int) (m : Nat) (c : Int) (hc : (BitVec.ofInt 64 c).toNat = 2 ^ m - 1) (hm : m ≤ 62) : bits .and .i64 n c = n % ((2 ^ m : Nat) : Int) := by
  have key : (BitVec.ofInt 64 n &&& BitVec.ofInt 64 c).toNat = (n % ((2 ^ 64 : Nat) : Int)).toNat % 2 ^ m := by
    rw [BitVec.toNat_and, BitVec.toNat_ofInt, hc, Nat.and_two_pow_sub_one_eq_mod]
  show IntKind.i64.wrap ((BitVec.ofInt 64 n &&& BitVec.ofInt 64 c).toNat : Nat) = _
  have hlt : (n % ((2 ^ 64 : Nat) : Int)).toNat % 2 ^ m < 2 ^ 62 := Nat.lt_of_lt_of_le (Nat.mod_lt _ (Nat.two_pow_pos m)) (Nat.pow_le_pow_right (by decide) hm)
  rw [key, IntKind.wrap_i64]
  have e1 : (((n % ((2 ^ 64 : Nat) : Int)).toNat % 2 ^ m : Nat) : Int) = n % ((2 ^ m : Nat) : Int) := by
    rw [Int.natCast_emod, Int.toNat_of_nonneg (Int.emod_nonneg _ (by decide))]
    exact Int.emod_emod_of_dvd _ (by exact_mod_cast Nat.pow_dvd_pow 2 (by omega : m ≤ 64))
  rw [← e1]
  omega
theorem i64_and1 (n : Int) : bits .and .i64 n 1 = n % 2 := i64_and_low n 1 1 (by decide) (by decide)
theorem i64_and63 (n : Int) : bits .and .i64 n 63 = n % 64 := i64_and_low n 6 63 (by decide) (by decide)

theorem run_append_kept {P : Program} (w : World) (base : Nat) (t ty e : TypeId) (i : TypeInfo) (z : Value) (size bytes : Nat) (ht : P.underlying t = some (.slice e)) (hi : P.info? e = some i) (hz : i.zero = some z)
    (hsize : i.size = size) (hby : i.bytes = bytes) (hzs : z.cells.size = size) (hsz : 0 < size)
    (v : Value) (n : Nat) (xs : List Value) (hown : w.ownsRow base e size v n xs)
    (a : Addr) (m c : Nat) (hm : 0 < m) (news : List Value) (hl : news.length = m * size) (hnews : ∀ j u, news[j]? = some u → w.cell? (a.add j) = some u) (h1 : ∀ u ∈ news, u.oneCell' = true)
    (h63 : n + m ≤ maxLen) (hbytes : (n + m) * bytes ≤ 140737488355328) (hbase : base ≤ w.heap.size) :
    ∃ g c2 w', (Builtin.append_ #[t, t] ty #[v, .slice (some a) m c]).run P w = .ok (.slice (some ⟨g, 0, none⟩) (n + m) c2) w' ∧ w'.ownsRow base e size (.slice (some ⟨g, 0, none⟩) (n + m) c2) (n + m) (xs ++ news) ∧
      ((v.ownBlock = some g ∧ w.grownBy w' (some g)) ∨ (g = w.heap.size ∧ Below w.heap.size w w')) := by
  obtain ⟨v', w', hr, ho, hg, hiff, hat⟩ := run_append_own_at (P := P) w base t ty e i z size bytes ht hi hz hsize hby hzs hsz v n xs hown a m c news hl hnews h1 h63 hbytes hbase
  have hv' : ∃ g c2, v' = .slice (some ⟨g, 0, none⟩) (n + m) c2 := by
    rcases ho.2 with ⟨rfl, h0⟩ | ⟨g, cap, cur, rfl, _⟩
    · omega
    · exact ⟨g, cap, rfl⟩
  obtain ⟨g, c2, rfl⟩ := hv'
  refine ⟨g, c2, w', hr, ho, ?_⟩
  subst hsize
  subst hby
  have hsmall : n + m ≤ 9223372036854775807 := by simp only [maxLen] at h63; omega
  rcases hown.2 with ⟨rfl, rfl⟩ | ⟨g0, cap, cur, rfl, hbg, hgc, hnc, hcm, hcs, htake⟩
  · right
    have hr2 := run_append_nil (P := P) w t ty e i z ht hi hz a m c news hl hnews hm (by omega) (by have hb := hbytes; simp only [Nat.zero_add] at hb; omega)
    rw [hr2] at hr
    simp only [Result.ok.injEq, Value.slice.injEq, Option.some.injEq, Addr.mk.injEq, and_true] at hr
    obtain ⟨⟨rfl, _⟩, rfl⟩ := hr
    exact ⟨rfl, ⟨rfl, rfl, rfl, by simp, fun k hk => heap_alloc_old w.drew _ hk⟩⟩
  · by_cases hroom : n + m ≤ cap
    · left
      have hfit : n * i.size + news.length ≤ cur.size := by rw [hl, hcs, ← Nat.add_mul]; exact Nat.mul_le_mul_right _ hroom
      have hr2 := run_append_room (P := P) w t ty e i ht hi g0 n cap cur hgc a m c news hl hnews h1 hroom hfit
      rw [hr2] at hr
      simp only [Result.ok.injEq, Value.slice.injEq, Option.some.injEq, Addr.mk.injEq, and_true, true_and] at hr
      obtain ⟨⟨rfl, rfl⟩, rfl⟩ := hr
      exact ⟨rfl, by simpa [Value.ownBlock] using hg⟩
    · right
      have holds : ∀ j u, xs[j]? = some u → w.cell? ((⟨g0, 0, none⟩ : Addr).add j) = some u := hown.cells (g := g0) rfl
      have hr2 := run_append_grow (P := P) w t ty e i z ht hi hz ⟨g0, 0, none⟩ n cap xs hown.1 holds a m c news hl hnews (by omega) (by omega) (growslice_fits (by omega) hbytes)
      rw [hr2] at hr
      simp only [Result.ok.injEq, Value.slice.injEq, Option.some.injEq, Addr.mk.injEq, and_true, true_and] at hr
      obtain ⟨⟨rfl, rfl⟩, rfl⟩ := hr
      exact ⟨rfl, ⟨rfl, rfl, rfl, by simp, fun k hk => heap_alloc_old w.drew _ hk⟩⟩

section
variable {P : Program} {w : World} {ops : Array Oper} {o : Oper} {a : Act}
theorem wpList_append_kept {rest : List Oper} {Q : Exit → Act → World → Prop} (hgd : Region.wanted o (yielded ops a.tmps) = true) (s x : Operand) (t : TypeId)
    (ho : o.op = .call { callee := .builtin .append, args := #[s, x], argTypes := #[t, t] })
    (base : Nat) (e : TypeId) (i : TypeInfo) (z : Value) (size bytes : Nat) (ht : P.underlying t = some (.slice e)) (hi : P.info? e = some i) (hz : i.zero = some z)
    (hsize : i.size = size) (hby : i.bytes = bytes) (hzs : z.cells.size = size) (hsz : 0 < size)
    (v : Value) (n : Nat) (xs : List Value) (hs : a.eval s = v) (hown : w.ownsRow base e size v n xs)
    (ad : Addr) (m c : Nat) (hm : 0 < m) (news : List Value) (hx : a.eval x = .slice (some ad) m c) (hl : news.length = m * size) (hnews : ∀ j u, news[j]? = some u → w.cell? (ad.add j) = some u) (h1 : ∀ u ∈ news, u.oneCell' = true)
    (h63 : n + m ≤ maxLen) (hbytes : (n + m) * bytes ≤ 140737488355328) (hbase : base ≤ w.heap.size)
    (h : ∀ g c2 w', w'.ownsRow base e size (.slice (some ⟨g, 0, none⟩) (n + m) c2) (n + m) (xs ++ news) → ((v.ownBlock = some g ∧ w.grownBy w' (some g)) ∨ (g = w.heap.size ∧ Below w.heap.size w w')) → wpList P ops Q rest (a.put o.dst (.slice (some ⟨g, 0, none⟩) (n + m) c2)) w') :
    wpList P ops Q (o :: rest) a w := by
  refine wpList_step fun K hK => ?_
  rw [if_pos hgd]
  obtain ⟨g, c2, w', hr, h2, h3⟩ := run_append_kept (P := P) w base t o.type e i z size bytes ht hi hz hsize hby hzs hsz v n xs hown ad m c hm news hl hnews h1 h63 hbytes hbase
  unfold Oper.wp execOp
  simp only [ho, resolve, invoke, builtin, Sem.run_bind, Sem.run_pure, Result.andThen_ok, List.map_toArray, List.map_cons, List.map_nil, hs, hx, hr]
  exact hK _ _ (h g c2 w' h2 h3)
theorem step_append_kept {K : Act → World → Prop} {Q : Exit → Act → World → Prop} {E : Prop} (hgd : Region.wanted o (yielded ops a.tmps) = true) (s x : Operand) (t : TypeId)
    (ho : o.op = .call { callee := .builtin .append, args := #[s, x], argTypes := #[t, t] })
    (base : Nat) (e : TypeId) (i : TypeInfo) (z : Value) (size bytes : Nat) (ht : P.underlying t = some (.slice e)) (hi : P.info? e = some i) (hz : i.zero = some z)
    (hsize : i.size = size) (hby : i.bytes = bytes) (hzs : z.cells.size = size) (hsz : 0 < size)
    (v : Value) (n : Nat) (xs : List Value) (hs : a.eval s = v) (hown : w.ownsRow base e size v n xs)
    (ad : Addr) (m c : Nat) (hm : 0 < m) (news : List Value) (hx : a.eval x = .slice (some ad) m c) (hl : news.length = m * size) (hnews : ∀ j u, news[j]? = some u → w.cell? (ad.add j) = some u) (h1 : ∀ u ∈ news, u.oneCell' = true)
    (h63 : n + m ≤ maxLen) (hbytes : (n + m) * bytes ≤ 140737488355328) (hbase : base ≤ w.heap.size)
    (h : ∀ g c2 w', w'.ownsRow base e size (.slice (some ⟨g, 0, none⟩) (n + m) c2) (n + m) (xs ++ news) → ((v.ownBlock = some g ∧ w.grownBy w' (some g)) ∨ (g = w.heap.size ∧ Below w.heap.size w w')) → K (a.put o.dst (.slice (some ⟨g, 0, none⟩) (n + m) c2)) w') :
    if Region.wanted o (yielded ops a.tmps) = true then Oper.wp P o a w K Q else E := by
  rw [if_pos hgd]
  obtain ⟨g, c2, w', hr, h2, h3⟩ := run_append_kept (P := P) w base t o.type e i z size bytes ht hi hz hsize hby hzs hsz v n xs hown ad m c hm news hl hnews h1 h63 hbytes hbase
  unfold Oper.wp execOp
  simp only [ho, resolve, invoke, builtin, Sem.run_bind, Sem.run_pure, Result.andThen_ok, List.map_toArray, List.map_cons, List.map_nil, hs, hx, hr]
  exact h g c2 w' h2 h3
end
theorem new_cells {w : World} {b : Nat} {cs : Array Value} {t : TypeId} (h : w.heap[b]? = some (.cells cs t (0, 0))) : ∀ (j : Nat) (u : Value), cs.toList[j]? = some u → w.cell? ((⟨b, 0, none⟩ : Addr).add j) = some u := by
  intro j u hu
  have e : ((⟨b, 0, none⟩ : Addr).add j) = ⟨b, j, none⟩ := by rw [WideShapes.add_plain]; simp
  rw [e]
  simp only [World.cell?, h]
  simpa using hu
/-- an append to a row of another label leaves a block as it is -/
theorem kept_other {ρ : Nat → Nat} {i j b g : Nat} {w w1 w2 : World} {v : Value} (hw : ∀ k, k < w.heap.size → w1.heap[k]? = w.heap[k]?) (hs : w.heap.size ≤ w1.heap.size) (hb : b < w.heap.size) (hbl : ρ b = j) (hl : Lab ρ i v) (hij : i ≠ j)
    (hat : (v.ownBlock = some g ∧ w1.grownBy w2 (some g)) ∨ (g = w1.heap.size ∧ Below w1.heap.size w1 w2)) : w2.heap[b]? = w.heap[b]? := by
  rcases hat with ⟨h1, h2⟩ | ⟨_, h2⟩
  · rw [h2.block b (by omega) (fun e => hij (by have := hl g h1; rw [← this, ← Option.some.inj e]; exact hbl)), hw b hb]
  · rw [h2.block b (by omega), hw b hb]
/-- behind an append of something that was just laid: only blocks of the row's label may have turned -/
theorem fro_kept {ρ : Nat → Nat} {i g : Nat} {w w2 : World} {o : Obj} {v : Value} (hl : Lab ρ i v) (hat : (v.ownBlock = some g ∧ (w.alloc o).grownBy w2 (some g)) ∨ (g = (w.alloc o).heap.size ∧ Below (w.alloc o).heap.size (w.alloc o) w2)) : FrO ρ i w w2 := by
  have hs : (w.alloc o).heap.size = w.heap.size + 1 := by simp
  have hw : ∀ b, b < w.heap.size → (w.alloc o).heap[b]? = w.heap[b]? := fun b hb => (bel_alloc w o).block b hb
  rcases hat with ⟨h1, h2⟩ | ⟨_, h2⟩
  · exact ⟨h2.os, h2.tape, h2.output, by have := h2.size; omega, fun b hb hne => by rw [h2.block b (by omega) (fun e => hne (by rw [Option.some.inj e]; exact hl g h1)), hw b hb]⟩
  · exact ⟨h2.os, h2.tape, h2.output, by have := h2.size; omega, fun b hb _ => by rw [h2.block b (by omega), hw b hb]⟩
theorem kept_lab {ρ : Nat → Nat} {i g n c : Nat} {w w2 : World} {o : Obj} {v : Value} (hl : Lab ρ i v) (hlt : ∀ b, v.ownBlock = some b → b < w.heap.size) (hat : (v.ownBlock = some g ∧ (w.alloc o).grownBy w2 (some g)) ∨ (g = (w.alloc o).heap.size ∧ Below (w.alloc o).heap.size (w.alloc o) w2)) : Lab (ext ρ w.heap.size i) i (.slice (some ⟨g, 0, none⟩) n c) := fun b hb => by
  obtain rfl := Option.some.inj hb
  rcases hat with ⟨h1, _⟩ | ⟨h1, _⟩
  · rw [ext_old (hlt _ h1)]; exact hl _ h1
  · exact ext_new (by simp at h1 ⊢; omega)
end Go.Proofs.YtaecfcaeopmiaaaDoor
