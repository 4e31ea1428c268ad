/-
  A packet's addresses, byte by byte.
-/
import Derived.Test.YtaecfcaeopmiaaaDoorSp
namespace Go.Proofs.YtaecfcaeopmiaaaDoor
open Go.RowKit

theorem wpList_put_sb {w0 w : World} {ops : Array Oper} {rest : List Oper} {o : Oper} {a : Act} {Q : Exit → Act → World → Prop} {L : List Res} (hgd : o.guard = none) (x y : Operand) (ho : o.op = .store 5 x y) (hd : o.dst = none) (S : Sp w0 w L) (b off : Nat) (hx : a.eval x = .pointer (some ⟨b, off, none⟩)) (z : Int) (hy : a.eval y = .int .u8 z)
    (i : Nat) (p : Pk) (hi : L[i]? = some (.blk b (pkC p) 30)) (j : Nat) (hoff : off = 4 + j) (hj : j < 16) (h1 : p.sB.length = 16) (h2 : p.dB.length = 16)
    (h : ∀ w2, Sp w0 w2 (L.set i (.blk b (pkC { p with sB := p.sB.set j z }) 30)) → wpList Tryd.prog ops Q rest a w2) : wpList Tryd.prog ops Q (o :: rest) a w := by
  subst hoff
  refine wpList_store_pf hgd _ x y ho hd b _ _ hx hy rfl rfl p { p with sB := p.sB.set j z } (S.pk i hi) h1 h2 u8_info1 (by omega) ?_ fun w2 hA hS => h w2 (S.put i hi hS hA)
  unfold pkL
  rw [show 4 + j = (j + 1) + 1 + 1 + 1 by omega]
  simp only [List.set_cons_succ]
  rw [List.set_append_left _ _ (by simp [bts_length, h1]; omega), List.set_cons_succ]
  simp [bts, List.map_set]
theorem wpList_put_db {w0 w : World} {ops : Array Oper} {rest : List Oper} {o : Oper} {a : Act} {Q : Exit → Act → World → Prop} {L : List Res} (hgd : o.guard = none) (x y : Operand) (ho : o.op = .store 5 x y) (hd : o.dst = none) (S : Sp w0 w L) (b off : Nat) (hx : a.eval x = .pointer (some ⟨b, off, none⟩)) (z : Int) (hy : a.eval y = .int .u8 z)
    (i : Nat) (p : Pk) (hi : L[i]? = some (.blk b (pkC p) 30)) (j : Nat) (hoff : off = 21 + j) (hj : j < 16) (h1 : p.sB.length = 16) (h2 : p.dB.length = 16)
    (h : ∀ w2, Sp w0 w2 (L.set i (.blk b (pkC { p with dB := p.dB.set j z }) 30)) → wpList Tryd.prog ops Q rest a w2) : wpList Tryd.prog ops Q (o :: rest) a w := by
  subst hoff
  refine wpList_store_pf hgd _ x y ho hd b _ _ hx hy rfl rfl p { p with dB := p.dB.set j z } (S.pk i hi) h1 h2 u8_info1 (by omega) ?_ fun w2 hA hS => h w2 (S.put i hi hS hA)
  have l1 : (Value.int .i64 p.sV :: bts p.sB).length = 17 := by simp [bts_length, h1]
  unfold pkL
  rw [show 21 + j = (17 + (j + 1)) + 1 + 1 + 1 by omega]
  simp only [List.set_cons_succ]
  rw [List.set_append_right _ _ (by omega), l1, show 17 + (j + 1) - 17 = j + 1 by omega, List.set_append_left _ _ (by simp [bts_length, h2]; omega), List.set_cons_succ]
  simp [bts, List.map_set]
/-- sixteen bytes of which k have been copied -/
def fill16 (l : List Int) (k : Nat) : List Int := l.take k ++ List.replicate (16 - k) 0
theorem fill16_len {l : List Int} {k : Nat} (h : k ≤ l.length) (hk : k ≤ 16) : (fill16 l k).length = 16 := by simp [fill16]; omega
theorem fill16_set {l : List Int} {k : Nat} (h : k < l.length) (hk : k < 16) : (fill16 l k).set k (gt l k) = fill16 l (k + 1) := by
  unfold fill16
  have e : (l.take k).length = k := by simp; omega
  rw [List.set_append_right _ _ (by omega), e, Nat.sub_self, show 16 - k = (16 - (k + 1)) + 1 by omega, List.replicate_succ, List.set_cons_zero, List.take_add_one, List.append_assoc]
  congr 1
  rw [gt_eq h, List.getElem?_eq_getElem h]
  rfl
theorem fill16_all {l : List Int} : fill16 l 16 = l.take 16 := by simp [fill16]
theorem fill16_none {l : List Int} : fill16 l 0 = zB := by simp [fill16, zB]
section
variable {w0 w : World} {ops : Array Oper} {rest : List Oper} {o : Oper} {a : Act} {Q : Exit → Act → World → Prop} {L : List Res}
theorem wpList_get_sb (hgd : Region.wanted o (yielded ops a.tmps) = true) (x : Operand) (ho : o.op = .load 5 x) (S : Sp w0 w L) (b off : Nat) (hx : a.eval x = .pointer (some ⟨b, off, none⟩)) (i : Nat) (p : Pk) (hi : L[i]? = some (.blk b (pkC p) 30)) (j : Nat) (hoff : off = 4 + j) (hj : j < 16)
    (h1 : p.sB.length = 16) (h : wpList Tryd.prog ops Q rest (a.put o.dst (.int .u8 (gt p.sB j))) w) : wpList Tryd.prog ops Q (o :: rest) a w := by
  subst hoff
  exact wpList_load_one hgd 5 x ho b _ hx _ ((S.pk i hi).src h1 hj) (by kernel_rfl) h
theorem wpList_get_db (hgd : Region.wanted o (yielded ops a.tmps) = true) (x : Operand) (ho : o.op = .load 5 x) (S : Sp w0 w L) (b off : Nat) (hx : a.eval x = .pointer (some ⟨b, off, none⟩)) (i : Nat) (p : Pk) (hi : L[i]? = some (.blk b (pkC p) 30)) (j : Nat) (hoff : off = 21 + j) (hj : j < 16)
    (h1 : p.sB.length = 16) (h2 : p.dB.length = 16) (h : wpList Tryd.prog ops Q rest (a.put o.dst (.int .u8 (gt p.dB j))) w) : wpList Tryd.prog ops Q (o :: rest) a w := by
  subst hoff
  exact wpList_load_one hgd 5 x ho b _ hx _ ((S.pk i hi).dst h1 h2 hj) (by kernel_rfl) h
theorem wpList_frontZ (hgd : Region.wanted o (yielded ops a.tmps) = true) (x y : Operand) (ho : o.op = .slice 22 x none (some y) none)
    (ad : Option Go.Addr) (n cap : Nat) (hx : a.eval x = .slice ad n cap) (k : IntKind) (z : Int) (hy : a.eval y = .int k z) (hz : 0 ≤ z) (hj : z ≤ cap) (h : wpList Tryd.prog ops Q rest (a.put o.dst (.slice ad z.toNat cap)) w) : wpList Tryd.prog ops Q (o :: rest) a w :=
  wpList_front hgd x y ho ad n cap hx k z hy z.toNat (by omega) (by omega) h
end
end Go.Proofs.YtaecfcaeopmiaaaDoor
