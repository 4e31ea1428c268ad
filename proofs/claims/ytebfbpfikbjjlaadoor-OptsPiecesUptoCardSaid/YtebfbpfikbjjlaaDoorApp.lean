/-
  'append(s, x...)' where both are rows of a call's own (or nil), whatever the elements.
-/
import Derived.Test.YtebfbpfikbjjlaaDoorGen
namespace Go.Proofs.YtebfbpfikbjjlaaDoor
open Go.RowKit

theorem run_append_row {P : Program} (w : World) (base base2 : Nat) (t ty e : TypeId) (i : TypeInfo) (z : Value) (size bytes : Nat) (ht : P.underlying t = some (.slice e)) (hi : P.info? e = some i) (hz : i.zero = some z)
    (hsize : i.size = size) (hby : i.bytes = bytes) (hzs : z.cells.size = size) (hsz : 0 < size)
    (v : Value) (n : Nat) (xs : List Value) (hown : w.ownsRow base e size v n xs) (x : Value) (m : Nat) (ys : List Value) (hx : w.ownsRow base2 e size x m ys) (h1 : ∀ u ∈ ys, u.oneCell' = true)
    (h63 : n + m ≤ maxLen) (hbytes : (n + m) * bytes ≤ 140737488355328) (hbase : base ≤ w.heap.size) :
    ∃ a2 c2 w', (Builtin.append_ #[t, t] ty #[v, x]).run P w = .ok (.slice a2 (n + m) c2) w' ∧ w'.ownsRow base e size (.slice a2 (n + m) c2) (n + m) (xs ++ ys) ∧ w.grownBy w' v.ownBlock ∧
      (∀ g, (Value.slice a2 (n + m) c2).ownBlock = some g → v.ownBlock = some g ∨ w.heap.size ≤ g) := by
  have key : ∃ v' w', (Builtin.append_ #[t, t] ty #[v, x]).run P w = .ok v' w' ∧ w'.ownsRow base e size v' (n + m) (xs ++ ys) ∧ w.grownBy w' v.ownBlock ∧
      (v'.ownBlock = v.ownBlock ∨ v'.ownBlock = some w.heap.size) := by
    rcases hx.2 with ⟨rfl, h0⟩ | ⟨g, cap, cur, rfl, _⟩
    · subst h0
      have hy : ys = [] := List.length_eq_zero_iff.1 (by have := hx.1; omega)
      subst hy
      refine ⟨v, w, run_append_owned_none (P := P) (w := w) base t ty e i size ht hi v n xs hown, ?_, World.grownBy.refl w _, Or.inl rfl⟩
      simpa using hown
    · obtain ⟨v', w', hr, ho, hg, _, hat⟩ := run_append_own_at (P := P) w base t ty e i z size bytes ht hi hz hsize hby hzs hsz v n xs hown ⟨g, 0, none⟩ m cap ys hx.1 (hx.cells (g := g) rfl) h1 h63 hbytes hbase
      exact ⟨v', w', hr, ho, hg, hat⟩
  obtain ⟨v', w', hr, ho, hg, hat⟩ := key
  obtain ⟨a2, c2, rfl, _⟩ := own_shape ho
  refine ⟨a2, c2, w', hr, ho, hg, fun g hg' => ?_⟩
  rcases hat with h | h
  · exact Or.inl (by rw [← h]; exact hg')
  · right
    rw [h] at hg'
    have := Option.some.inj hg'
    omega
theorem wpList_append_row {P : Program} {w : World} {ops : Array Oper} {rest : List Oper} {o : Oper} {a : Act} {Q : Exit → Act → World → Prop} (hgd : Region.wanted o (yielded ops a.tmps) = true) (s x : Operand) (t : TypeId)
    (ho : o.op = .call { callee := .builtin .append, args := #[s, x], argTypes := #[t, t] })
    (base base2 : Nat) (e : TypeId) (i : TypeInfo) (z : Value) (size bytes : Nat) (ht : P.underlying t = some (.slice e)) (hi : P.info? e = some i) (hz : i.zero = some z)
    (hsize : i.size = size) (hby : i.bytes = bytes) (hzs : z.cells.size = size) (hsz : 0 < size)
    (v : Value) (n : Nat) (xs : List Value) (hs : a.eval s = v) (hown : w.ownsRow base e size v n xs)
    (xv : Value) (m : Nat) (ys : List Value) (hx : a.eval x = xv) (hxo : w.ownsRow base2 e size xv m ys) (h1 : ∀ u ∈ ys, u.oneCell' = true)
    (h63 : n + m ≤ maxLen) (hbytes : (n + m) * bytes ≤ 140737488355328) (hbase : base ≤ w.heap.size)
    (h : ∀ a2 c2 w', w'.ownsRow base e size (.slice a2 (n + m) c2) (n + m) (xs ++ ys) → w.grownBy w' v.ownBlock → (∀ g, (Value.slice a2 (n + m) c2).ownBlock = some g → v.ownBlock = some g ∨ w.heap.size ≤ g) → wpList P ops Q rest (a.put o.dst (.slice a2 (n + m) c2)) w') :
    wpList P ops Q (o :: rest) a w := by
  refine wpList_step fun K hK => ?_
  rw [if_pos hgd]
  obtain ⟨a2, c2, w', hr, h2, h3, h4⟩ := run_append_row (P := P) w base base2 t o.type e i z size bytes ht hi hz hsize hby hzs hsz v n xs hown xv m ys hxo h1 h63 hbytes hbase
  unfold Oper.wp execOp
  simp only [ho, resolve, invoke, builtin, Sem.run_bind, Sem.run_pure, Result.andThen_ok, List.map_toArray, List.map_cons, List.map_nil, hs, hx, hr]
  exact hK _ _ (h a2 c2 w' h2 h3 h4)

end Go.Proofs.YtebfbpfikbjjlaaDoor
