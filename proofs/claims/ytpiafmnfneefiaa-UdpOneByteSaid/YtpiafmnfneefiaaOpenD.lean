/-
  A datagram that came in by value, opened out of the row's reading.
-/
import Derived.Test.YtpiafmnfneefiaaOpenA
namespace Go.Proofs.Ytpiafmnfneefiaa
open Go.ChangeShapes Go.WideShapes Go.ChangeAt Go.RowKit

theorem trodAll_five {H : Type} {enc : TypeId × Value → H} {P : Program} {w : World} {base : Nat} {spare : Nat → Bool} {held : Bool} {t0 t1 t2 t3 t4 : TypeId} {args : Array Value} {ds : List (DataW H)} {ps : List MemPlace} (h : DataW.TrodAll enc P w base spare held [t0, t1, t2, t3, t4] args.toList ds ps) :
    ∃ v0 v1 v2 v3 v4 d0 d1 d2 d3 d4 p0 p1 p2 p3 p4, args = #[v0, v1, v2, v3, v4] ∧ ds = [d0, d1, d2, d3, d4] ∧ ps = p0 ++ p1 ++ p2 ++ p3 ++ p4 ∧ DataW.Trod enc P w base spare held t0 v0 d0 p0 ∧ DataW.Trod enc P w base spare held t1 v1 d1 p1 ∧ DataW.Trod enc P w base spare held t2 v2 d2 p2 ∧ DataW.Trod enc P w base spare held t3 v3 d3 p3 ∧ DataW.Trod enc P w base spare held t4 v4 d4 p4 := by
  obtain ⟨v0, vs0, d0, ds0, p0, q0, hargs, rfl, rfl, k0, r0⟩ := trodAll_cons h
  obtain ⟨v1, vs1, d1, ds1, p1, q1, rfl, rfl, rfl, k1, r1⟩ := trodAll_cons r0
  obtain ⟨v2, vs2, d2, ds2, p2, q2, rfl, rfl, rfl, k2, r2⟩ := trodAll_cons r1
  obtain ⟨v3, vs3, d3, ds3, p3, q3, rfl, rfl, rfl, k3, r3⟩ := trodAll_cons r2
  obtain ⟨v4, vs4, d4, ds4, p4, q4, rfl, rfl, rfl, k4, r4⟩ := trodAll_cons r3
  obtain ⟨rfl, rfl, rfl⟩ := trodAll_nil r4
  exact ⟨v0, v1, v2, v3, v4, d0, d1, d2, d3, d4, p0, p1, p2, p3, p4, by cases args; simp_all, rfl, by simp, k0, k1, k2, k3, k4⟩
theorem open_bytes_c {H : Type} {enc : TypeId × Value → H} {w : World} {base : Nat} {spare : Nat → Bool} {held : Bool} {fuel : Nat} {cs : List Value} {x : DataW H × List MemPlace}
    (hf : DataW.trod enc Try.prog w base spare held fuel 33 cs = some x) (hsp : ∀ b, spare b = true) : ∃ v l, cs = [v] ∧ Rb w v l := by
  rcases open_ints Try.underlying33 Try.underlying5 (by kernel_rfl) hf with ⟨hcs, _⟩ | ⟨x, l, c, zs, hcs, _, hl, hm, hz, _, hcell, hwz⟩
  · exact ⟨_, [], hcs, Rb.nil w⟩
  · exact ⟨_, zs.take l, hcs, rb_in hl hm (by simpa [hsp] using hz) rfl hcell hwz⟩
theorem open_dgram {H : Type} {enc : TypeId × Value → H} {w : World} {r : Reach} {b0 base : Nat} {spare : Nat → Bool} {held : Bool} {v : Value} {d : DataW H} {p : List MemPlace}
    (hval : Value.okWide Try.prog w r b0 35 v) (h : DataW.Trod enc Try.prog w base spare held 35 v d p) (hsp : ∀ b, spare b = true) :
    ∃ sp dp ns dv l, v = .agg #[.int .i64 sp, .int .i64 dp, .bool ns, dv] ∧ Rb w dv l ∧ (-9223372036854775808 ≤ sp ∧ sp ≤ 9223372036854775807) ∧ (-9223372036854775808 ≤ dp ∧ dp ≤ 9223372036854775807) := by
  obtain ⟨cs, rfl, hsz⟩ : ∃ cs, v = .agg cs ∧ cs.size = 4 := by
    simp only [Value.okWide, Try.underlying35] at hval
    obtain ⟨cs, rfl, h, _⟩ := hval
    exact ⟨cs, rfl, by rw [h]; kernel_rfl⟩
  obtain ⟨fuel, hf⟩ := h
  have hc1 : Try.prog.cellsOf 3 = 1 := by kernel_rfl
  have hc2 : Try.prog.cellsOf 4 = 1 := by kernel_rfl
  have hc3 : Try.prog.cellsOf 33 = 1 := by kernel_rfl
  have hf : DataW.trod enc Try.prog w base spare held fuel 35 cs.toList = some (d, p) := hf
  obtain ⟨c0, c1, c2, c3, hl⟩ : ∃ c0 c1 c2 c3, cs.toList = [c0, c1, c2, c3] := by
    match hcl : cs.toList, (show cs.toList.length = 4 by simpa using hsz) with
    | [a, b, c, d], _ => exact ⟨a, b, c, d, rfl⟩
  obtain ⟨xs, n, rfl, _, _, hxl, hfi⟩ := DataW.trod_struct Try.underlying35 hf
  have hxl : xs.length = 4 := hxl
  obtain ⟨x0, x1, x2, x3, rfl⟩ : ∃ x0 x1 x2 x3, xs = [x0, x1, x2, x3] := by
    match xs, hxl with
    | [x0, x1, x2, x3], _ => exact ⟨x0, x1, x2, x3, rfl⟩
  have h0 : DataW.trod enc Try.prog w base spare held n 3 ((cs.toList.drop 0).take (Try.prog.cellsOf 3)) = some x0 := hfi 0 _ rfl
  have h1 : DataW.trod enc Try.prog w base spare held n 3 ((cs.toList.drop 1).take (Try.prog.cellsOf 3)) = some x1 := hfi 1 _ rfl
  have h2 : DataW.trod enc Try.prog w base spare held n 4 ((cs.toList.drop 2).take (Try.prog.cellsOf 4)) = some x2 := hfi 2 _ rfl
  have h3 : DataW.trod enc Try.prog w base spare held n 33 ((cs.toList.drop 3).take (Try.prog.cellsOf 33)) = some x3 := hfi 3 _ rfl
  rw [hc1, hl] at h0 h1
  rw [hc2, hl] at h2
  rw [hc3, hl] at h3
  simp only [List.drop_succ_cons, List.drop_zero, List.take_succ_cons, List.take_zero] at h0 h1 h2 h3
  obtain ⟨sp, e0, _, w0⟩ := DataW.trod_int Try.underlying3 h0
  obtain ⟨dp, e1, _, w1⟩ := DataW.trod_int Try.underlying3 h1
  obtain ⟨ns, e2, _⟩ := DataW.trod_bool Try.underlying4 h2
  obtain ⟨dv, l, e3, hR⟩ := open_bytes_c h3 hsp
  simp only [List.cons.injEq, and_true] at e0 e1 e2 e3
  subst e0 e1 e2 e3
  refine ⟨sp, dp, ns, c3, l, ?_, hR, i64_bd w0, i64_bd w1⟩
  congr 1
  apply Array.ext'
  rw [hl]
end Go.Proofs.Ytpiafmnfneefiaa
