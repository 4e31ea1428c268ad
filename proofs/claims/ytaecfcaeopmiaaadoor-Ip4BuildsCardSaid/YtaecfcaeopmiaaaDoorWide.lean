/-
  Append of bytes where the two together are longer than 2^47: the bound is the model's own.
-/
import Derived.Test.YtaecfcaeopmiaaaDoorSp
import Derived.Deep.DeepAppendWide
namespace Go.Proofs.YtaecfcaeopmiaaaDoor
open Go.RowKit

theorem run_append_bytes_wide {P : Program} (w : World) (base : Nat) (t ty e : TypeId) (i : TypeInfo) (z : Value) (ht : P.underlying t = some (.slice e)) (hi : P.info? e = some i) (hz : i.zero = some z)
    (hsize : i.size = 1) (hby : i.bytes = 1) (hzs : z.cells.size = 1)
    (v : Value) (n : Nat) (xs : List Value) (hown : w.ownsRow base e 1 v n xs) (x : Value) (m : List Int) (hx : Rb w x m)
    (hn : n ≤ 140737488355328) (hbytes : n + m.length ≤ 200000000000000) (hbase : base ≤ w.heap.size) :
    ∃ a2 c2 w', (Builtin.append_ #[t, t] ty #[v, x]).run P w = .ok (.slice a2 (n + m.length) c2) w' ∧ w'.ownsRow base e 1 (.slice a2 (n + m.length) c2) (n + m.length) (xs ++ bts m) ∧ w.grownBy w' v.ownBlock ∧
      (∀ g, (Value.slice a2 (n + m.length) c2).ownBlock = some g → v.ownBlock = some g ∨ w.heap.size ≤ g) := by
  by_cases hs : n + m.length ≤ 140737488355328
  · exact run_append_bytes w base t ty e i z ht hi hz hsize hby hzs v n xs hown x m hx hs hbase
  · have hm : 0 < m.length := by omega
    obtain ⟨_, a, cap, rfl, h1, h2, h3, h4⟩ := hx
    cases a with
    | none =>
      have hc0 := h3 rfl
      omega
    | some ad =>
      have hnews : ∀ j u, (bts m)[j]? = some u → w.cell? (ad.add j) = some u := fun j u hu => by
        have hj : j < m.length := by have := (List.getElem?_eq_some_iff.1 hu).1; rwa [bts_length] at this
        obtain ⟨b, off, e', hc⟩ := h4 j hj
        obtain rfl : ad = ⟨b, off, none⟩ := by simpa using e'
        rw [bts_some hj] at hu
        rw [← Option.some.inj hu]
        rw [show (⟨b, off, none⟩ : Addr).add j = ⟨b, off + j, none⟩ from by unfold Addr.add; split <;> simp_all]; exact hc
      have hl : (bts m).length = m.length * i.size := by rw [hsize, bts_length]; omega
      have hsmall : n + m.length ≤ maxLen := by unfold maxLen; omega
      obtain ⟨v', w', hr, ho, hg, hiff⟩ := run_append_own_wide (P := P) w base t ty e i z 1 1 ht hi hz hsize hby hzs (by decide) v n xs hown ad m.length cap (bts m) (by rw [bts_length]; omega) hnews (bts_one m) hsmall (by omega) hbase
      have hv' : ∃ g c2, v' = .slice (some ⟨g, 0, none⟩) (n + m.length) c2 := by
        rcases ho.2 with ⟨rfl, h0⟩ | ⟨g, cap, cur, rfl, _⟩
        · omega
        · exact ⟨g, cap, rfl⟩
      obtain ⟨g, c2, rfl⟩ := hv'
      refine ⟨_, c2, w', hr, ho, hg, fun g' hg' => ?_⟩
      simp only [Value.ownBlock, Option.some.injEq] at hg'
      subst hg'
      have hsz1 : w.ownsRow base e i.size v n xs := by rw [hsize]; exact hown
      rcases hown.2 with ⟨rfl, rfl⟩ | ⟨g0, cap0, cur, rfl, hbg, hgc, hnc, hcm, hcs, htake⟩
      · right
        have hr2 := run_append_nil (P := P) w t ty e i z ht hi hz ad m.length cap (bts m) hl hnews hm (by omega) (by rw [hby]; omega)
        rw [hr2] at hr
        simp only [Result.ok.injEq, Value.slice.injEq, Option.some.injEq, Addr.mk.injEq, and_true] at hr
        omega
      · by_cases hroom : n + m.length ≤ cap0
        · left
          have hfit : n * i.size + (bts m).length ≤ cur.size := by rw [hl, hsize, hcs]; omega
          have hr2 := run_append_room (P := P) w t ty e i ht hi g0 n cap0 cur hgc ad m.length cap (bts m) hl hnews (bts_one m) hroom hfit
          rw [hr2] at hr
          simp only [Result.ok.injEq, Value.slice.injEq, Option.some.injEq, Addr.mk.injEq, and_true, true_and] at hr
          obtain ⟨⟨rfl, rfl⟩, rfl⟩ := hr
          rfl
        · right
          have holds : ∀ j u, xs[j]? = some u → w.cell? ((⟨g0, 0, none⟩ : Addr).add j) = some u := hown.cells (g := g0) rfl
          have hr2 := run_append_grow (P := P) w t ty e i z ht hi hz ⟨g0, 0, none⟩ n cap0 xs hsz1.1 holds ad m.length cap (bts m) hl hnews (by omega) (by omega) (growslice_fits_wide (by omega) (by rw [hby]; omega))
          rw [hr2] at hr
          simp only [Result.ok.injEq, Value.slice.injEq, Option.some.injEq, Addr.mk.injEq, and_true, true_and] at hr
          omega
/-- append to the row at place i, up to the model's bound -/
theorem wpList_growW {w0 w : World} {ops : Array Oper} {rest : List Oper} {o : Oper} {a : Act} {Q : Exit → Act → World → Prop} (hgd : Region.wanted o (yielded ops a.tmps) = true) (s x : Operand)
    (ho : o.op = .call { callee := .builtin .append, args := #[s, x], argTypes := #[22, 22] }) {L : List Res} (S : Sp w0 w L) (i : Nat) {v : Value} {n : Nat} {l : List Int} (hi : L[i]? = some (.row v 5 1 n (bts l))) (hs : a.eval s = v)
    (xv : Value) (m : List Int) (hx : a.eval x = xv) (hR : Rb w xv m) (k : Nat) (hk : k = n + m.length) (hn : n ≤ 140737488355328) (hb : k ≤ 200000000000000)
    (h : ∀ a2 c2 w', Sp w0 w' (L.set i (.row (.slice a2 k c2) 5 1 k (bts (l ++ m)))) → wpList Tryd.prog ops Q rest (a.put o.dst (.slice a2 k c2)) w') :
    wpList Tryd.prog ops Q (o :: rest) a w := by
  obtain ⟨i0, hi0, hz0, hz1, hz2⟩ := info_parts Tryd.info5
  subst hk
  refine wpList_step fun K hK => ?_
  rw [if_pos hgd]
  obtain ⟨a2, c2, w', hr, h1, h2, h3⟩ := run_append_bytes_wide (P := Tryd.prog) w w0.heap.size 22 o.type 5 i0 _ Tryd.underlying22 hi0 hz0 hz1 hz2 rfl v n (bts l) (S.own i hi) xv m hR hn hb S.le
  unfold Oper.wp execOp
  simp only [ho, resolve, invoke, builtin, Sem.run_bind, Sem.run_pure, Result.andThen_ok, List.map_toArray, List.map_cons, List.map_nil, hs, hx, hr]
  exact hK _ _ (h a2 c2 w' (S.grow i hi h2 (by rw [bts_append]; exact h1) h3))
end Go.Proofs.YtaecfcaeopmiaaaDoor
