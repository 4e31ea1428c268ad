/-
  mosaicref06: at, Parse.
-/
import Derived.Test.YthbdnmmmibdgpaaTree
import Derived.Test.YthbdnmmmibdgpaaRef6A
import Derived.Test.YthbdnmmmibdgpaaIp6P
import Derived.Test.YthbdnmmmibdgpaaStillT
import Derived.Test.YthbdnmmmibdgpaaSp
namespace Go.Proofs.Ythbdnmmmibdgpaa
open Go.RowKit

/-- a byte of what a slice reads as, loaded -/
theorem wpList_get_rb {w : World} {ops : Array Oper} {rest : List Oper} {o : Oper} {a : Act} {Q : Exit → Act → World → Prop} (hgd : Region.wanted o (yielded ops a.tmps) = true) (x : Operand) (ho : o.op = .load 5 x) {l : List Int} {b off n c : Nat}
    (hR : Rb w (.slice (some ⟨b, off, none⟩) n c) l) (j k : Nat) (hx : a.eval x = .pointer (some ⟨b, k, none⟩)) (hk : k = off + j) (hj : j < l.length) (h : wpList Try.prog ops Q rest (a.put o.dst (.int .u8 (gt l j))) w) : wpList Try.prog ops Q (o :: rest) a w := by
  subst hk
  obtain ⟨a', c', e, _, _, hz⟩ := hR.open
  simp only [Value.slice.injEq] at e
  obtain ⟨rfl, -, rfl⟩ := e
  rcases hz with h0 | ⟨b', off', e, hc⟩
  · omega
  · simp only [Option.some.injEq, Addr.mk.injEq, and_true] at e
    obtain ⟨rfl, rfl⟩ := e
    exact wpList_load_one hgd 5 x ho _ _ hx _ (hc j hj) (by kernel_rfl) h
theorem Rb.cellAt {w : World} {l : List Int} {b off n c : Nat} (hR : Rb w (.slice (some ⟨b, off, none⟩) n c) l) {j : Nat} (hj : j < l.length) : w.cell? ⟨b, off + j, none⟩ = some (.int .u8 (gt l j)) := by
  obtain ⟨a', c', e, _, _, hz⟩ := hR.open
  simp only [Value.slice.injEq] at e
  obtain ⟨rfl, -, rfl⟩ := e
  rcases hz with h0 | ⟨b', off', e, hc⟩
  · omega
  · simp only [Option.some.injEq, Addr.mk.injEq, and_true] at e
    obtain ⟨rfl, rfl⟩ := e
    exact hc j hj
theorem rAt_any (v : Value) (l : List Int) (i : Nat) (w : World) (h : Rb w v l) (hi : i + 1 < l.length) : Calls Try.prog 41 #[v, .int .i64 i] w (APost w (.int .i64 (wordL l i))) := by
  obtain ⟨ad, cd, rfl, hcd, hmd, hz⟩ := h.open
  unfold maxLen at hmd
  rcases hz with h0 | ⟨bk, off, rfl, hcell⟩
  · omega
  have c0 := hcell i (by omega)
  have c1 := hcell (i + 1) hi
  have g0 := h.byt.bd i
  have g1 := h.byt.bd (i + 1)
  have s1 : IntKind.i64.wrap ((i : Int) + 1) = (i : Int) + 1 := IntWalk.i64_in _ (by omega)
  have e1 : ((i : Int) + 1).toNat = i + 1 := by omega
  have s2 : IntKind.i64.wrap (gt l i * 256) = gt l i * 256 := IntWalk.i64_in _ (by omega)
  have s3 : IntKind.i64.wrap (gt l i * 256 + gt l (i + 1)) = gt l i * 256 + gt l (i + 1) := IntWalk.i64_in _ (by omega)
  clear hcell h
  have W := hid (show wordL l i = gt l i * 256 + gt l (i + 1) from by unfold wordL; omega)
  generalize wordL l i = v at *
  generalize gt l i = x at *
  generalize gt l (i + 1) = y at *
  generalize l.length = n at *
  go_enter Try.func41, Try.ntmps41
  go_upto_region 1 with fail
  go_quiet (fail)
  go_wp2_with fail
  go_ret
  exact ⟨by rw [W.out]; rfl, (Same.drewN _ _).below _⟩
theorem wpList_put_sb {w0 w : World} {ops : Array Oper} {rest : List Oper} {o : Oper} {a : Act} {Q : Exit → Act → World → Prop} {L : List Res} (hgd : o.guard = none) (x y : Operand) (ho : o.op = .store 5 x y) (hd : o.dst = none) (S : Sp w0 w L) (b off : Nat) (hx : a.eval x = .pointer (some ⟨b, off, none⟩)) (z : Int) (hy : a.eval y = .int .u8 z)
    (i : Nat) (p : Pk) (hi : L[i]? = some (.blk b (pkC p) 28)) (j : Nat) (hoff : off = 4 + j) (hj : j < 16) (h1 : p.sB.length = 16) (h2 : p.dB.length = 16)
    (h : ∀ w2, Sp w0 w2 (L.set i (.blk b (pkC { p with sB := p.sB.set j z }) 28)) → wpList Try.prog ops Q rest a w2) : wpList Try.prog ops Q (o :: rest) a w := by
  subst hoff
  refine wpList_store_pf hgd _ x y ho hd b _ _ hx hy rfl rfl p { p with sB := p.sB.set j z } (S.pk i hi) h1 h2 u8_info1 (by omega) ?_ fun w2 hA hS => h w2 (S.put i hi hS hA)
  unfold pkL
  rw [show 4 + j = (j + 1) + 1 + 1 + 1 by omega]
  simp only [List.set_cons_succ]
  rw [List.set_append_left _ _ (by simp [bts_length, h1]; omega), List.set_cons_succ]
  simp [bts, List.map_set]
theorem wpList_put_db {w0 w : World} {ops : Array Oper} {rest : List Oper} {o : Oper} {a : Act} {Q : Exit → Act → World → Prop} {L : List Res} (hgd : o.guard = none) (x y : Operand) (ho : o.op = .store 5 x y) (hd : o.dst = none) (S : Sp w0 w L) (b off : Nat) (hx : a.eval x = .pointer (some ⟨b, off, none⟩)) (z : Int) (hy : a.eval y = .int .u8 z)
    (i : Nat) (p : Pk) (hi : L[i]? = some (.blk b (pkC p) 28)) (j : Nat) (hoff : off = 21 + j) (hj : j < 16) (h1 : p.sB.length = 16) (h2 : p.dB.length = 16)
    (h : ∀ w2, Sp w0 w2 (L.set i (.blk b (pkC { p with dB := p.dB.set j z }) 28)) → wpList Try.prog ops Q rest a w2) : wpList Try.prog ops Q (o :: rest) a w := by
  subst hoff
  refine wpList_store_pf hgd _ x y ho hd b _ _ hx hy rfl rfl p { p with dB := p.dB.set j z } (S.pk i hi) h1 h2 u8_info1 (by omega) ?_ fun w2 hA hS => h w2 (S.put i hi hS hA)
  have l1 : (Value.int .i64 p.sV :: bts p.sB).length = 17 := by simp [bts_length, h1]
  unfold pkL
  rw [show 21 + j = (17 + (j + 1)) + 1 + 1 + 1 by omega]
  simp only [List.set_cons_succ]
  rw [List.set_append_right _ _ (by omega), l1, show 17 + (j + 1) - 17 = j + 1 by omega, List.set_append_left _ _ (by simp [bts_length, h2]; omega), List.set_cons_succ]
  simp [bts, List.map_set]
theorem gt_drop' (l : List Int) (i k : Nat) : gt l (i + k) = gt (l.drop i) k := by simp [gt, List.getElem?_drop]
/-- sixteen bytes of which k have been copied -/
def fill16 (l : List Int) (k : Nat) : List Int := l.take k ++ List.replicate (16 - k) 0
theorem fill16_len {l : List Int} {k : Nat} (h : k ≤ l.length) (hk : k ≤ 16) : (fill16 l k).length = 16 := by simp [fill16]; omega
theorem fill16_set {l : List Int} {k : Nat} (h : k < l.length) (hk : k < 16) : (fill16 l k).set k (gt l k) = fill16 l (k + 1) := by
  unfold fill16
  have e : (l.take k).length = k := by simp; omega
  rw [List.set_append_right _ _ (by omega), e, Nat.sub_self, show 16 - k = (16 - (k + 1)) + 1 by omega, List.replicate_succ, List.set_cons_zero, List.take_add_one, List.append_assoc]
  congr 1
  rw [gt_eq h, List.getElem?_eq_getElem h]
  rfl
theorem fill16_all {l : List Int} : fill16 l 16 = l.take 16 := by simp [fill16]
theorem fill16_none {l : List Int} : fill16 l 0 = zB := by simp [fill16, zB]
/-- the identification, read byte by byte -/
def idK (l : List Int) : Nat → Int
  | 0 => 0
  | k + 1 => idK l k * 256 + gt l (44 + k)
theorem idK_bd {l : List Int} (h : Byt l) : ∀ k, 0 ≤ idK l k ∧ idK l k < 256 ^ k
  | 0 => ⟨Int.le_refl _, by show (0 : Int) < 1; decide⟩
  | k + 1 => by
    have h1 := idK_bd h k
    have h2 := h.bd (44 + k)
    have e : (256 : Int) ^ (k + 1) = 256 ^ k * 256 := Int.pow_succ ..
    unfold idK
    omega
theorem pow256 {k : Nat} (hk : k ≤ 4) : ((256 : Int) ^ k = 1 ∧ k = 0) ∨ ((256 : Int) ^ k = 256 ∧ k = 1) ∨ ((256 : Int) ^ k = 65536 ∧ k = 2) ∨ ((256 : Int) ^ k = 16777216 ∧ k = 3) ∨ ((256 : Int) ^ k = 4294967296 ∧ k = 4) := by
  have : k = 0 ∨ k = 1 ∨ k = 2 ∨ k = 3 ∨ k = 4 := by omega
  rcases this with rfl | rfl | rfl | rfl | rfl <;> decide
theorem idK_small {l : List Int} (h : Byt l) {k : Nat} (hk : k < 4) : 0 ≤ idK l k ∧ idK l k < 16777216 := by
  have h1 := idK_bd h k
  have h2 := pow256 (k := k) (by omega)
  omega
theorem idK_u32 {l : List Int} (h : Byt l) {k : Nat} (hk : k ≤ 4) : 0 ≤ idK l k ∧ idK l k ≤ 4294967295 := by
  have h1 := idK_bd h k
  have h2 := pow256 hk
  omega
theorem idK_quad (l : List Int) : idK l 4 = quadL l 44 := by
  simp only [idK, quadL, wordL, Nat.add_zero, Nat.reduceAdd]
  omega
theorem P6Post.okS {e : Int} {l : List Int} {w w' : World} {q : Pk} {s : Option Go.Addr} {c k : Nat} {L : List Res} (he : e = 0) (S : Sp w w' (.row (.slice s (l.length - k) c) 5 1 (l.length - k) (bts (l.drop k)) :: L)) (hk : from6 l = k) (hq : q = p6K l (.slice s (l.length - k) c)) :
    P6Post e l w (.returned (.tuple #[.agg (pkC q), .int .i64 0])) w' := by
  subst hk
  refine ⟨S.bel, fun h => absurd he h, fun _ => ⟨s, c, by rw [hq], ?_⟩⟩
  have := S.own 0 rfl
  rwa [← List.length_drop] at this ⊢
theorem p6K_no {l sb db : List Int} {T F Pr Tt : Int} {v : Value} (hf : fr6 l = false) (hT : T = quadL l 0 / 1048576 % 256) (hF : F = quadL l 0 % 1048576) (hs : (l.drop 8).take 16 = sb) (hd : (l.drop 24).take 16 = db) (h6 : gt l 6 = Pr) (h7 : gt l 7 = Tt) :
    ({ pk0 with V := 6, TOS := T, Flow := F, sV := 6, sB := sb, dV := 6, dB := db, Proto := Pr, TTL := Tt, xv := v } : Pk) = p6K l v := by
  subst hT hF hs hd h6 h7
  simp [p6K, hf, pk0]
theorem p6K_fr {l sb db : List Int} {T F Tt : Int} {m : Bool} {v : Value} (hf : fr6 l = true) (hT : T = quadL l 0 / 1048576 % 256) (hF : F = quadL l 0 % 1048576) (hs : (l.drop 8).take 16 = sb) (hd : (l.drop 24).take 16 = db) (h7 : gt l 7 = Tt) (hm : (gt l 43 % 2 == 1) = m) :
    ({ pk0 with V := 6, TOS := T, Flow := F, sV := 6, sB := sb, dV := 6, dB := db, Proto := gt l 40, TTL := Tt, ID := idK l (48 - 44), More := m, Frag := true, Off := wordL l 42 / 8 * 8, xv := v } : Pk) = p6K l v := by
  subst hT hF hs hd h7 hm
  have e : decide (wordL l 42 % 2 = 1) = (gt l 43 % 2 == 1) := by
    unfold wordL
    rw [Bool.eq_iff_iff]
    simp only [decide_eq_true_eq, beq_iff_eq]
    show (256 * gt l 42 + gt l 43) % 2 = 1 ↔ _
    omega
  simp [p6K, hf, pk0, e, idK_quad]
set_option maxHeartbeats 4000000 in
set_option maxRecDepth 20000 in
theorem rParse6_any (bv : Value) (l : List Int) (w : World) (h : Rb w bv l) (hl : l.length ≤ 140737488355328) : Calls Try.prog 20 #[bv] w (P6Post (p6E l) l w) := by
  have HB := hid h
  have HL := hid hl
  have YB := h.byt
  obtain ⟨ad, cd, rfl, hcd, hmd, hz⟩ := h.open
  unfold maxLen at hmd
  obtain ⟨e, he⟩ : ∃ e, p6E l = e := ⟨_, rfl⟩
  rw [he]
  have EE := hid he.symm
  have S : Hid (Sp w (w.alloc (.cells #[.int .i64 0, .int .i64 0, .int .i64 0, .int .i64 0, .int .u8 0, .int .u8 0, .int .u8 0, .int .u8 0, .int .u8 0, .int .u8 0, .int .u8 0, .int .u8 0, .int .u8 0, .int .u8 0, .int .u8 0, .int .u8 0, .int .u8 0, .int .u8 0, .int .u8 0, .int .u8 0, .int .i64 0, .int .u8 0, .int .u8 0, .int .u8 0, .int .u8 0, .int .u8 0, .int .u8 0, .int .u8 0, .int .u8 0, .int .u8 0, .int .u8 0, .int .u8 0, .int .u8 0, .int .u8 0, .int .u8 0, .int .u8 0, .int .u8 0, .int .i64 0, .int .i64 0, .int .u32 0, .bool false, .bool false, .bool false, .int .i64 0, .slice none 0 0, .slice none 0 0] 28)) [.blk w.heap.size (pkC pk0) 28]) := hid (Sp.in1 ..)
  have g0 := YB.bd 0; have g6 := YB.bd 6
  have HW4 : Hid (wordL l 4 = 256 * gt l 4 + gt l 5) := hid rfl
  have s1 : IntKind.i64.wrap ((l.length : Int) - 40) = (l.length : Int) - 40 := IntWalk.i64_in _ (by omega)
  have w4 := wordL_bd YB 4
  have w0 := wordL_bd YB 0
  have w2 := wordL_bd YB 2
  clear h he
  rcases hz with h0 | ⟨bk, off, rfl, hcell⟩
  · go_enter Try.func20, Try.ntmps20
    go_upto_region 1 with fail
    generalize w.alloc (.cells #[.int .i64 0, .int .i64 0, .int .i64 0, .int .i64 0, .int .u8 0, .int .u8 0, .int .u8 0, .int .u8 0, .int .u8 0, .int .u8 0, .int .u8 0, .int .u8 0, .int .u8 0, .int .u8 0, .int .u8 0, .int .u8 0, .int .u8 0, .int .u8 0, .int .u8 0, .int .u8 0, .int .i64 0, .int .u8 0, .int .u8 0, .int .u8 0, .int .u8 0, .int .u8 0, .int .u8 0, .int .u8 0, .int .u8 0, .int .u8 0, .int .u8 0, .int .u8 0, .int .u8 0, .int .u8 0, .int .u8 0, .int .u8 0, .int .u8 0, .int .i64 0, .int .i64 0, .int .u32 0, .bool false, .bool false, .bool false, .int .i64 0, .slice none 0 0, .slice none 0 0] 28) = w' at *
    go_wp2_with (first
    | go_skip
    | ((with_reducible show wpList _ _ _ _ _ _)
       first
       | ((with_reducible show wpList _ _ _ (⟨_, .binOp _ _ _ _ _, _, _, _, _⟩ :: _) _ _); refine wpList_cmp (by rfl) _ (by rfl) _ _ _ _ rfl _ (by go_simp; exact rfl) ?_ ?_ <;> (intro hc; (try simp only [decide_eq_true_eq, decide_eq_false_iff_not, Int.not_lt] at hc); (try (simp at hc; done)); (try (exfalso; omega))))
       | ((with_reducible show wpList _ _ _ (⟨_, .store _ _ _, _, _, _, _⟩ :: _) _ _); first | (refine wpList_putW (by rfl) _ _ rfl rfl S.out _ rfl 0 _ rfl pk0 rfl (by first | rfl | assumption) (by first | rfl | assumption) (by first | rfl | assumption) (by first | rfl | assumption) rfl rfl ?_; intro w' hS; simp only [List.set] at hS; replace S := hid hS; clear hS) | (refine wpList_putW (by rfl) _ _ rfl rfl S.out _ rfl 1 _ rfl pk0 rfl (by first | rfl | assumption) (by first | rfl | assumption) (by first | rfl | assumption) (by first | rfl | assumption) rfl rfl ?_; intro w' hS; simp only [List.set] at hS; replace S := hid hS; clear hS) | (refine wpList_putW (by rfl) _ _ rfl rfl S.out _ rfl 2 _ rfl pk0 rfl (by first | rfl | assumption) (by first | rfl | assumption) (by first | rfl | assumption) (by first | rfl | assumption) rfl rfl ?_; intro w' hS; simp only [List.set] at hS; replace S := hid hS; clear hS) | (refine wpList_putW (by rfl) _ _ rfl rfl S.out _ rfl 3 _ rfl pk0 rfl (by first | rfl | assumption) (by first | rfl | assumption) (by first | rfl | assumption) (by first | rfl | assumption) rfl rfl ?_; intro w' hS; simp only [List.set] at hS; replace S := hid hS; clear hS))))
    refine post_pk Try.results20 rfl _ pk0 _ rfl rfl (S.out.pk 0 rfl) rfl rfl ?_
    have he : e = 20 := by rw [EE.out]; unfold p6E; rw [if_pos (by omega)]
    show P6Post e l w (.returned (.tuple #[.agg (pkC pk0), .int .i64 20])) _
    rw [he]
    exact P6Post.err (by decide) S.out.bel
  have AT := hid (fun W (hW : Sp w W []) (x : Int) (i : Nat) (hx : x = (i : Int)) (hi : i + 1 < l.length) => (show Calls Try.prog 41 #[.slice (some ⟨bk, off, none⟩) l.length cd, .int .i64 x] W (APost W (.int .i64 (wordL l i))) from by subst hx; exact rAt_any _ l i W (HB.out.below hW.bel) hi))
  have Z := hid (fun W (hW : Sp w W []) (i : Nat) (hi : i < l.length) => Rb.cellAt (HB.out.below hW.bel) hi)
  clear hcell
  go_enter Try.func20, Try.ntmps20
  go_upto_region 1 with fail
  generalize w.alloc (.cells #[.int .i64 0, .int .i64 0, .int .i64 0, .int .i64 0, .int .u8 0, .int .u8 0, .int .u8 0, .int .u8 0, .int .u8 0, .int .u8 0, .int .u8 0, .int .u8 0, .int .u8 0, .int .u8 0, .int .u8 0, .int .u8 0, .int .u8 0, .int .u8 0, .int .u8 0, .int .u8 0, .int .i64 0, .int .u8 0, .int .u8 0, .int .u8 0, .int .u8 0, .int .u8 0, .int .u8 0, .int .u8 0, .int .u8 0, .int .u8 0, .int .u8 0, .int .u8 0, .int .u8 0, .int .u8 0, .int .u8 0, .int .u8 0, .int .u8 0, .int .i64 0, .int .i64 0, .int .u32 0, .bool false, .bool false, .bool false, .int .i64 0, .slice none 0 0, .slice none 0 0] 28) = w' at *
  generalize w.heap.size = b0 at *
  go_upto_region 7 with (first
    | go_skip
    | ((with_reducible show wpList _ _ _ _ _ _)
       first
       | ((with_reducible show wpList _ _ _ (⟨_, .binOp _ _ _ _ _, _, _, _, _⟩ :: _) _ _); refine wpList_cmp (by rfl) _ (by rfl) _ _ _ _ rfl _ (by go_simp; exact rfl) ?_ ?_ <;> (intro hc; (try simp only [decide_eq_true_eq, decide_eq_false_iff_not, Int.not_lt] at hc); (try (simp at hc; done)); (try (exfalso; omega))))
       | (have HR := hid (HB.out.below S.out.bel); ((with_reducible show wpList _ _ _ (⟨_, .load _ _, _, _, _, _⟩ :: _) _ _); first | (refine wpList_get_rb (by rfl) _ rfl HR.out _ _ rfl rfl (by omega) ?_) | (refine wpList_get_rb (by rfl) _ rfl HR.out 0 _ rfl (by omega) (by omega) ?_)))
       | ((with_reducible show wpList _ _ _ (⟨_, .store _ _ _, _, _, _, _⟩ :: _) _ _); first | (refine wpList_putW (by rfl) _ _ rfl rfl S.out _ rfl 0 _ rfl pk0 rfl (by first | rfl | assumption) (by first | rfl | assumption) (by first | rfl | assumption) (by first | rfl | assumption) rfl rfl ?_; intro w' hS; simp only [List.set] at hS; replace S := hid hS; clear hS) | (refine wpList_putW (by rfl) _ _ rfl rfl S.out _ rfl 1 _ rfl pk0 rfl (by first | rfl | assumption) (by first | rfl | assumption) (by first | rfl | assumption) (by first | rfl | assumption) rfl rfl ?_; intro w' hS; simp only [List.set] at hS; replace S := hid hS; clear hS) | (refine wpList_putW (by rfl) _ _ rfl rfl S.out _ rfl 2 _ rfl pk0 rfl (by first | rfl | assumption) (by first | rfl | assumption) (by first | rfl | assumption) (by first | rfl | assumption) rfl rfl ?_; intro w' hS; simp only [List.set] at hS; replace S := hid hS; clear hS) | (refine wpList_putW (by rfl) _ _ rfl rfl S.out _ rfl 3 _ rfl pk0 rfl (by first | rfl | assumption) (by first | rfl | assumption) (by first | rfl | assumption) (by first | rfl | assumption) rfl rfl ?_; intro w' hS; simp only [List.set] at hS; replace S := hid hS; clear hS)))
    | (go_at_call 41; refine (AT.out _ S.out.nil _ 4 (by omega) (by omega)).mono ?_; rintro en w' ⟨rfl, hb⟩; replace S := hid (S.out.keep hb); clear hb))
  all_goals (try simp only [bne_iff_ne, bne_eq_false_iff_eq, beq_iff_eq, beq_eq_false_iff_ne, ne_eq] at *)
  all_goals first
    | (refine post_pk Try.results20 rfl _ pk0 _ rfl rfl (S.out.pk 0 rfl) rfl rfl ?_
       first
       | (have he : e = 20 := by rw [EE.out]; unfold p6E; rw [if_pos (by omega)]
          show P6Post e l w (.returned (.tuple #[.agg (pkC pk0), .int .i64 20])) _
          rw [he]
          exact P6Post.err (by decide) S.out.bel)
       | (have he : e = 50 := by rw [EE.out]; unfold p6E; rw [if_neg (by omega), if_pos (by omega)]
          show P6Post e l w (.returned (.tuple #[.agg (pkC pk0), .int .i64 50])) _
          rw [he]
          exact P6Post.err (by decide) S.out.bel)
       | (have he : e = 51 := by rw [EE.out]; unfold p6E; rw [if_neg (by omega), if_neg (by omega), if_pos (by omega)]
          show P6Post e l w (.returned (.tuple #[.agg (pkC pk0), .int .i64 51])) _
          rw [he]
          exact P6Post.err (by decide) S.out.bel))
    | skip
  have i1 : (1 : Int) < (l.length : Int) := by omega
  have i6 : (6 : Int) < (l.length : Int) := by omega
  have i7 : (7 : Int) < (l.length : Int) := by omega
  have g1 := YB.bd 1; have g7 := YB.bd 7
  have e1 : (wordL l 0).tdiv 16 = wordL l 0 / 16 := Int.tdiv_eq_ediv_of_nonneg (by omega)
  have e2 : IntKind.i64.wrap (wordL l 0 / 16) = wordL l 0 / 16 := IntWalk.i64_in _ (by omega)
  have e3 : (wordL l 0 / 16).tmod 256 = wordL l 0 / 16 % 256 := Int.tmod_eq_emod_of_nonneg (by omega)
  have e4 : (gt l 1).tmod 16 = gt l 1 % 16 := Int.tmod_eq_emod_of_nonneg (by omega)
  have c1 : IntKind.i64.wrap (gt l 1) = gt l 1 := IntWalk.i64_in _ (by omega)
  have c6 : IntKind.i64.wrap (gt l 6) = gt l 6 := IntWalk.i64_in _ (by omega)
  have c7 : IntKind.i64.wrap (gt l 7) = gt l 7 := IntWalk.i64_in _ (by omega)
  have s2 : IntKind.i64.wrap (gt l 1 % 16 * 65536) = gt l 1 % 16 * 65536 := IntWalk.i64_in _ (by omega)
  have s3 : IntKind.i64.wrap (gt l 1 % 16 * 65536 + wordL l 2) = gt l 1 % 16 * 65536 + wordL l 2 := IntWalk.i64_in _ (by omega)
  (try simp only [Act.put, List.setIfInBounds_toArray, List.set_cons_zero, List.set_cons_succ])
  go_cut [4] from 5 (fun v wc => ∃ b1, v = .pointer (some ⟨b1, 0, none⟩) ∧ Sp w wc [.blk b1 (pkC { pk0 with V := 6, TOS := wordL l 0 / 16 % 256, Flow := gt l 1 % 16 * 65536 + wordL l 2, Proto := gt l 6, TTL := gt l 7 }) 28, .blk b0 (pkC pk0) 28])
  case first =>
    refine wp_region_ord (.weak 0 (.weak 4 (.weak 5 (.weak 6 (.weak 7 (.weak 8 (.weak 9 (.weak 10 (.weak 13 (.weak 14 (.weak 15 (.weak 16 (.weak 17 (.weak 18 (.weak 19 (.weak 20 (.two 1 22 (.weak 2 (.weak 3 (.two 11 22 (.weak 12 (.weak 21 (.strong 22 (.strong 23 (.done))))) (.strong 11 (.weak 12 (.weak 21 (.strong 23 (.done)))))))) (.strong 1 (.weak 2 (.weak 3 (.strong 11 (.weak 12 (.weak 21 (.strong 23 (.done))))))))))))))))))))))))) (fun W => Sp w W [.blk b0 (pkC pk0) 28]) (by kernel_rfl) (by kernel_rfl) (fun c a d v w h => by cases d <;> exact h) ?_ ?_
    · exact S.out.same (Same.drew _)
    replace S := hid (S.out.same (Same.drew w'))
    generalize w'.drew = w' at *
    simp only [Ord.pick, List.getElem?_cons_succ, List.getElem?_cons_zero]
    repeat' (first
      | ((with_reducible show wpE _ _ _ _ _ _ _); (first | (refine wpE_weak (by rfl) ?_; apply Exists.intro; refine ⟨fun wS hS => ?_, ?_⟩; (focus (have z1 := Z.out _ hS.nil 1 (by omega); have z6 := Z.out _ hS.nil 6 (by omega); have z7 := Z.out _ hS.nil 7 (by omega); go_simp; (try with_reducible rfl); done)); simp only [Act.put, List.setIfInBounds_toArray, List.set_cons_zero, List.set_cons_succ]) | (refine wpE_pass (by rfl) ?_; simp only [Act.put, List.setIfInBounds_toArray, List.set_cons_zero, List.set_cons_succ])))
      | ((with_reducible show wpE _ _ _ _ _ _ _); refine wpE_strongL (by rfl) ?_)
      | ((with_reducible show wpE _ _ _ _ _ _ _); refine wpE_twoL (by rfl) (by rfl) ?_ ?_)
      | ((with_reducible show wpList _ _ _ _ _ _); go_wp2_with (first
        | go_skip
        | ((with_reducible show wpList _ _ _ _ _ _); ((with_reducible show wpList _ _ _ (⟨_, .store _ _ _, _, _, _, _⟩ :: _) _ _); first | (refine wpList_putW (by rfl) _ _ rfl rfl S.out _ rfl 0 _ rfl { pk0 with V := 6, TOS := wordL l 0 / 16 % 256, Flow := gt l 1 % 16 * 65536 + wordL l 2, Proto := gt l 6, TTL := gt l 7 } rfl (by first | rfl | assumption) (by first | rfl | assumption) (by first | rfl | assumption) (by first | rfl | assumption) rfl rfl ?_; intro w' hS; simp only [List.set] at hS; replace S := hid hS; clear hS)))
        | (go_at_call 41; first | (refine (AT.out _ S.out.nil _ 0 (by omega) (by omega)).mono ?_; rintro en w' ⟨rfl, hb⟩; replace S := hid (S.out.keep hb); clear hb) | (refine (AT.out _ S.out.nil _ 2 (by omega) (by omega)).mono ?_; rintro en w' ⟨rfl, hb⟩; replace S := hid (S.out.keep hb); clear hb))))
      | ((with_reducible show qEnd _ _ _ _ (World.alloc _ _)); refine (fun (h : ∀ w2, w2 = World.alloc _ _ → qEnd _ _ .normal _ w2) => h _ rfl) ?_; intro w' hw2; (first | (replace S := hid (show Sp _ _ (.blk _ (pkC pk0) 28 :: _) from S.out.alloc hw2)) | (replace S := hid (S.out.alloc hw2))); clear hw2)
      | ((with_reducible show qEnd _ _ _ _ _); refine qEnd_done (S.out.sub (by repeat (first | exact List.Sublist.refl _ | exact List.nil_sublist _ | apply List.Sublist.cons_cons | apply List.Sublist.cons))) ?_; (try simp only [Act.put, List.setIfInBounds_toArray, List.set_cons_zero, List.set_cons_succ]))
      | ((with_reducible show wpE _ _ _ _ _ _ _); refine wpE_done ?_; go_simp; go_step; go_meet))
    all_goals exact ⟨_, rfl, S.out⟩
  case rest =>
    obtain ⟨b1, rfl, hS⟩ := hcut
    replace S := hid hS
    clear hS
    have w' := wc
    clear e1 e2 e3 e4 c1 c6 c7 s2 s3
    go_upto_region 11 with (first
      | go_skip
      | ((with_reducible show wpList _ _ _ _ _ _); ((with_reducible show wpList _ _ _ (⟨_, .store _ _ _, _, _, _, _⟩ :: _) _ _); first | (first | (refine wpList_putW (by rfl) _ _ rfl rfl S.out _ rfl 0 _ rfl _ rfl (by first | rfl | assumption) (by first | rfl | assumption) (by first | rfl | assumption) (by first | rfl | assumption) (by first | rfl | assumption) (by first | rfl | assumption) ?_; intro w' hS; simp only [List.set] at hS; replace S := hid hS; clear hS) | (refine wpList_putW (by rfl) _ _ rfl rfl S.out _ rfl 1 _ rfl _ rfl (by first | rfl | assumption) (by first | rfl | assumption) (by first | rfl | assumption) (by first | rfl | assumption) (by first | rfl | assumption) (by first | rfl | assumption) ?_; intro w' hS; simp only [List.set] at hS; replace S := hid hS; clear hS) | (refine wpList_putW (by rfl) _ _ rfl rfl S.out _ rfl 2 _ rfl _ rfl (by first | rfl | assumption) (by first | rfl | assumption) (by first | rfl | assumption) (by first | rfl | assumption) (by first | rfl | assumption) (by first | rfl | assumption) ?_; intro w' hS; simp only [List.set] at hS; replace S := hid hS; clear hS) | (refine wpList_putW (by rfl) _ _ rfl rfl S.out _ rfl 3 _ rfl _ rfl (by first | rfl | assumption) (by first | rfl | assumption) (by first | rfl | assumption) (by first | rfl | assumption) (by first | rfl | assumption) (by first | rfl | assumption) ?_; intro w' hS; simp only [List.set] at hS; replace S := hid hS; clear hS) | (refine wpList_putW (by rfl) _ _ rfl rfl S.out _ rfl 4 _ rfl _ rfl (by first | rfl | assumption) (by first | rfl | assumption) (by first | rfl | assumption) (by first | rfl | assumption) (by first | rfl | assumption) (by first | rfl | assumption) ?_; intro w' hS; simp only [List.set] at hS; replace S := hid hS; clear hS)) | (first | (refine wpList_put_pk (by rfl) _ _ _ rfl rfl S.out _ _ rfl 0 _ rfl _ rfl _ rfl (by rfl) (by first | rfl | assumption) (by first | rfl | assumption) ?_; intro w' hS; simp only [List.set] at hS; replace S := hid hS; clear hS) | (refine wpList_put_pk (by rfl) _ _ _ rfl rfl S.out _ _ rfl 1 _ rfl _ rfl _ rfl (by rfl) (by first | rfl | assumption) (by first | rfl | assumption) ?_; intro w' hS; simp only [List.set] at hS; replace S := hid hS; clear hS) | (refine wpList_put_pk (by rfl) _ _ _ rfl rfl S.out _ _ rfl 2 _ rfl _ rfl _ rfl (by rfl) (by first | rfl | assumption) (by first | rfl | assumption) ?_; intro w' hS; simp only [List.set] at hS; replace S := hid hS; clear hS) | (refine wpList_put_pk (by rfl) _ _ _ rfl rfl S.out _ _ rfl 3 _ rfl _ rfl _ rfl (by rfl) (by first | rfl | assumption) (by first | rfl | assumption) ?_; intro w' hS; simp only [List.set] at hS; replace S := hid hS; clear hS) | (refine wpList_put_pk (by rfl) _ _ _ rfl rfl S.out _ _ rfl 4 _ rfl _ rfl _ rfl (by rfl) (by first | rfl | assumption) (by first | rfl | assumption) ?_; intro w' hS; simp only [List.set] at hS; replace S := hid hS; clear hS) | (refine wpList_put_pk (by rfl) _ _ _ rfl rfl S.out _ _ rfl 5 _ rfl _ rfl _ rfl (by rfl) (by first | rfl | assumption) (by first | rfl | assumption) ?_; intro w' hS; simp only [List.set] at hS; replace S := hid hS; clear hS)))))
    have D8 : IntKind.i64.wrap 8 = 8 := by decide
    obtain ⟨T, hT⟩ : ∃ T, T = wordL l 0 / 16 % 256 := ⟨_, rfl⟩
    obtain ⟨F, hF⟩ : ∃ F, F = gt l 1 % 16 * 65536 + wordL l 2 := ⟨_, rfl⟩
    rw [← hT, ← hF] at S
    have hTF := hid (And.intro hT hF)
    clear hT hF
    generalize hP : gt l 6 = Pr at S
    generalize hL : gt l 7 = Tt at S
    have hPL := hid (And.intro hP hL)
    clear hP hL
    go_loopw [5] (fun v wr => ∃ k : Nat, k ≤ 16 ∧ v = .int .i64 k ∧ Sp w wr [.blk b1 (pkC { pk0 with V := 6, TOS := T, Flow := F, sV := 6, sB := fill16 (l.drop 8) k, dV := 6, dB := fill16 (l.drop 24) k, Proto := Pr, TTL := Tt }) 28, .blk b0 (pkC pk0) 28]) (fun v _ => (16 - intOf v).toNat)
    · exact ⟨0, by omega, rfl, by rw [fill16_none, fill16_none]; exact S.out⟩
    · obtain ⟨k, hk, rfl, hS⟩ := hrel
      replace S := hid hS
      clear hS
      have w' := wr
      have L1 : (fill16 (l.drop 8) k).length = 16 := fill16_len (by simp; omega) hk
      have L2 : (fill16 (l.drop 24) k).length = 16 := fill16_len (by simp; omega) hk
      by_cases hlt : k < 16
      · have F1 : (fill16 (l.drop 8) k).set k (gt l (8 + k)) = fill16 (l.drop 8) (k + 1) := by rw [gt_drop']; exact fill16_set (by simp; omega) hlt
        have F2 : (fill16 (l.drop 24) k).set k (gt l (24 + k)) = fill16 (l.drop 24) (k + 1) := by rw [gt_drop']; exact fill16_set (by simp; omega) hlt
        replace F1 := hid F1
        replace F2 := hid F2
        have y1 : IntKind.i64.wrap (8 + (k : Int)) = ((8 + k : Nat) : Int) := by rw [IntWalk.i64_in _ (by omega)]; omega
        have y2 : IntKind.i64.wrap (24 + (k : Int)) = ((24 + k : Nat) : Int) := by rw [IntWalk.i64_in _ (by omega)]; omega
        have y3 : IntKind.i64.wrap ((k : Int) + 1) = ((k + 1 : Nat) : Int) := by rw [IntWalk.i64_in _ (by omega)]; omega
        have hd : decide ((k : Int) < 16) = true := by simp; omega
        go_wp2_with (first
          | go_skip
          | ((with_reducible show wpList _ _ _ _ _ _)
             first
             | (have HR := hid (HB.out.below S.out.bel); (with_reducible show wpList _ _ _ (⟨_, .load _ _, _, _, _, _⟩ :: _) _ _); refine wpList_get_rb (by rfl) _ rfl HR.out (8 + k) _ rfl rfl (by omega) ?_)
             | (have HR := hid (HB.out.below S.out.bel); (with_reducible show wpList _ _ _ (⟨_, .load _ _, _, _, _, _⟩ :: _) _ _); refine wpList_get_rb (by rfl) _ rfl HR.out (24 + k) _ rfl rfl (by omega) ?_)
             | ((with_reducible show wpList _ _ _ (⟨_, .store _ _ _, _, _, _, _⟩ :: _) _ _); refine wpList_put_sb (by rfl) _ _ rfl rfl S.out _ _ rfl _ rfl 0 _ rfl k rfl hlt L1 L2 ?_; intro w' hS; simp only [List.set] at hS; replace S := hid hS; clear hS)
             | ((with_reducible show wpList _ _ _ (⟨_, .store _ _ _, _, _, _, _⟩ :: _) _ _); refine wpList_put_db (by rfl) _ _ rfl rfl S.out _ _ rfl _ rfl 0 _ rfl k rfl hlt (by simpa using L1) L2 ?_; intro w' hS; simp only [List.set] at hS; replace S := hid hS; clear hS)))
        go_roundw
        case rel =>
          refine ⟨k + 1, by omega, ?_, by have := S.out; simp only [F1.out, F2.out] at this; exact this⟩
          first | rfl | (simp; done)
        case measure => simp [intOf]; omega
      · obtain rfl : k = 16 := by omega
        have hd : decide ((((16 : Nat) : Int)) < 16) = false := by decide
        simp only [fill16_all] at S L1 L2
        have YC := hid i6
        generalize hsb : (l.drop 8).take 16 = sb at S L1
        generalize hdb : (l.drop 24).take 16 = db at S L2
        have Q1 : Hid (IsA 6 sb) := hid (by rw [← hsb]; exact take16_six (by omega) YB)
        have Q2 : Hid (IsA 6 db) := hid (by rw [← hdb]; exact take16_six (by omega) YB)
        have RG := hid (fun W (q : Pk) (xs : List Int) (hq : Pin W q [] xs) (hx : xs.length ≤ 140737488355328) => (rRight6_any q [] xs W hq hx).mono (R' := fun en w' => ∃ r, Hid (right6 q 0 xs.length = r) ∧ en = .returned (.bool r) ∧ Below W.heap.size W w') fun en w' ⟨h1, h2⟩ => ⟨_, hid rfl, h1, h2⟩)
        have hsd := hid (And.intro hsb hdb)
        have hT6 : Hid (T = quadL l 0 / 1048576 % 256) := hid (by rw [hTF.out.1]; show _ = (65536 * wordL l 0 + wordL l 2) / 1048576 % 256; omega)
        have hF6 : Hid (F = quadL l 0 % 1048576) := hid (by rw [hTF.out.2]; show _ = (65536 * wordL l 0 + wordL l 2) % 1048576; have : wordL l 0 = 256 * gt l 0 + gt l 1 := rfl; omega)
        clear hsb hdb HR D8
        have hmm : l.length ≤ 9223372036854775807 := by omega
        by_cases h44 : gt l 6 = 44
        · have hb6 : (gt l 6 == 44) = true := by simp [h44]
          clear h44
          by_cases h48 : l.length < 48
          · have hd2 : decide ((l.length : Int) < 48) = true := by simp; omega
            go_wp2_with (first
            | go_skip
            | ((with_reducible show wpList _ _ _ _ _ _)
               first
               | (have HR := hid (HB.out.below S.out.bel); ((with_reducible show wpList _ _ _ (⟨_, .load _ _, _, _, _, _⟩ :: _) _ _); first | (refine wpList_get_rb (by rfl) _ rfl HR.out _ _ rfl rfl (by omega) ?_) | (refine wpList_get_rb (by rfl) _ rfl HR.out 0 _ rfl (by omega) (by omega) ?_)))
               | ((with_reducible show wpList _ _ _ (⟨_, .store _ _ _, _, _, _, _⟩ :: _) _ _); first | (refine wpList_putW (by rfl) _ _ rfl rfl S.out _ rfl 0 _ rfl pk0 rfl (by first | rfl | assumption) (by first | rfl | assumption) (by first | rfl | assumption) (by first | rfl | assumption) rfl rfl ?_; intro w' hS; simp only [List.set] at hS; replace S := hid hS; clear hS) | (refine wpList_putW (by rfl) _ _ rfl rfl S.out _ rfl 1 _ rfl pk0 rfl (by first | rfl | assumption) (by first | rfl | assumption) (by first | rfl | assumption) (by first | rfl | assumption) rfl rfl ?_; intro w' hS; simp only [List.set] at hS; replace S := hid hS; clear hS) | (refine wpList_putW (by rfl) _ _ rfl rfl S.out _ rfl 2 _ rfl pk0 rfl (by first | rfl | assumption) (by first | rfl | assumption) (by first | rfl | assumption) (by first | rfl | assumption) rfl rfl ?_; intro w' hS; simp only [List.set] at hS; replace S := hid hS; clear hS) | (refine wpList_putW (by rfl) _ _ rfl rfl S.out _ rfl 3 _ rfl pk0 rfl (by first | rfl | assumption) (by first | rfl | assumption) (by first | rfl | assumption) (by first | rfl | assumption) rfl rfl ?_; intro w' hS; simp only [List.set] at hS; replace S := hid hS; clear hS))))
            refine post_pk Try.results20 rfl _ pk0 _ rfl rfl (S.out.pk 1 rfl) rfl rfl ?_
            have he : e = 20 := by rw [EE.out]; unfold p6E; rw [if_neg (by omega), if_neg (by omega), if_neg (by omega), if_pos ⟨by simpa using hb6, h48⟩]
            show P6Post e l w (.returned (.tuple #[.agg (pkC pk0), .int .i64 20])) _
            rw [he]
            exact P6Post.err (by decide) S.out.bel
          · have hd2 : decide ((l.length : Int) < 48) = false := by simp; omega
            have y40 := YB.bd 40
            have y43 := YB.bd 43
            have w42 := wordL_bd YB 42
            have x40 : IntKind.i64.wrap (gt l 40) = gt l 40 := IntWalk.i64_in _ (by omega)
            have x42 : IntKind.i64.wrap (wordL l 42 / 8 * 8) = wordL l 42 / 8 * 8 := IntWalk.i64_in _ (by omega)
            obtain ⟨m, hm⟩ : ∃ m, (gt l 43 % 2 == 1) = m := ⟨_, rfl⟩
            have HM := hid hm
            go_upto_region 25 with (first
            | go_skip
            | ((with_reducible show wpList _ _ _ _ _ _)
               first
               | (have HR := hid (HB.out.below S.out.bel); ((with_reducible show wpList _ _ _ (⟨_, .load _ _, _, _, _, _⟩ :: _) _ _); first | (refine wpList_get_rb (by rfl) _ rfl HR.out _ _ rfl rfl (by omega) ?_) | (refine wpList_get_rb (by rfl) _ rfl HR.out 0 _ rfl (by omega) (by omega) ?_)))
               | (((with_reducible show wpList _ _ _ (⟨_, .store _ _ _, _, _, _, _⟩ :: _) _ _); first | (first | (refine wpList_putW (by rfl) _ _ rfl rfl S.out _ rfl 0 _ rfl _ rfl (by first | rfl | assumption) (by first | rfl | assumption) (by first | rfl | assumption) (by first | rfl | assumption) (by first | rfl | assumption) (by first | rfl | assumption) ?_; intro w' hS; simp only [List.set] at hS; replace S := hid hS; clear hS) | (refine wpList_putW (by rfl) _ _ rfl rfl S.out _ rfl 1 _ rfl _ rfl (by first | rfl | assumption) (by first | rfl | assumption) (by first | rfl | assumption) (by first | rfl | assumption) (by first | rfl | assumption) (by first | rfl | assumption) ?_; intro w' hS; simp only [List.set] at hS; replace S := hid hS; clear hS) | (refine wpList_putW (by rfl) _ _ rfl rfl S.out _ rfl 2 _ rfl _ rfl (by first | rfl | assumption) (by first | rfl | assumption) (by first | rfl | assumption) (by first | rfl | assumption) (by first | rfl | assumption) (by first | rfl | assumption) ?_; intro w' hS; simp only [List.set] at hS; replace S := hid hS; clear hS) | (refine wpList_putW (by rfl) _ _ rfl rfl S.out _ rfl 3 _ rfl _ rfl (by first | rfl | assumption) (by first | rfl | assumption) (by first | rfl | assumption) (by first | rfl | assumption) (by first | rfl | assumption) (by first | rfl | assumption) ?_; intro w' hS; simp only [List.set] at hS; replace S := hid hS; clear hS) | (refine wpList_putW (by rfl) _ _ rfl rfl S.out _ rfl 4 _ rfl _ rfl (by first | rfl | assumption) (by first | rfl | assumption) (by first | rfl | assumption) (by first | rfl | assumption) (by first | rfl | assumption) (by first | rfl | assumption) ?_; intro w' hS; simp only [List.set] at hS; replace S := hid hS; clear hS)) | (first | (refine wpList_put_pk (by rfl) _ _ _ rfl rfl S.out _ _ rfl 0 _ rfl _ rfl _ rfl (by rfl) (by first | rfl | assumption) (by first | rfl | assumption) ?_; intro w' hS; simp only [List.set] at hS; replace S := hid hS; clear hS) | (refine wpList_put_pk (by rfl) _ _ _ rfl rfl S.out _ _ rfl 1 _ rfl _ rfl _ rfl (by rfl) (by first | rfl | assumption) (by first | rfl | assumption) ?_; intro w' hS; simp only [List.set] at hS; replace S := hid hS; clear hS) | (refine wpList_put_pk (by rfl) _ _ _ rfl rfl S.out _ _ rfl 2 _ rfl _ rfl _ rfl (by rfl) (by first | rfl | assumption) (by first | rfl | assumption) ?_; intro w' hS; simp only [List.set] at hS; replace S := hid hS; clear hS) | (refine wpList_put_pk (by rfl) _ _ _ rfl rfl S.out _ _ rfl 3 _ rfl _ rfl _ rfl (by rfl) (by first | rfl | assumption) (by first | rfl | assumption) ?_; intro w' hS; simp only [List.set] at hS; replace S := hid hS; clear hS) | (refine wpList_put_pk (by rfl) _ _ _ rfl rfl S.out _ _ rfl 4 _ rfl _ rfl _ rfl (by rfl) (by first | rfl | assumption) (by first | rfl | assumption) ?_; intro w' hS; simp only [List.set] at hS; replace S := hid hS; clear hS) | (refine wpList_put_pk (by rfl) _ _ _ rfl rfl S.out _ _ rfl 5 _ rfl _ rfl _ rfl (by rfl) (by first | rfl | assumption) (by first | rfl | assumption) ?_; intro w' hS; simp only [List.set] at hS; replace S := hid hS; clear hS)))))
            | (go_at_call 41; refine (AT.out _ S.out.nil _ 42 (by omega) (by omega)).mono ?_; rintro en w' ⟨rfl, hb⟩; replace S := hid (S.out.keep hb); clear hb))
            clear hm
            go_loopw [7] (fun v wr => ∃ j : Nat, (44 ≤ j ∧ j ≤ 48) ∧ v = .int .i64 (j : Int) ∧ Sp w wr [.blk b1 (pkC { pk0 with V := 6, TOS := T, Flow := F, sV := 6, sB := sb, dV := 6, dB := db, Proto := gt l 40, TTL := Tt, ID := idK l (j - 44), More := m, Frag := true, Off := wordL l 42 / 8 * 8 }) 28, .blk b0 (pkC pk0) 28]) (fun v _ => (48 - intOf v).toNat)
            · exact ⟨44, by omega, rfl, S.out⟩
            · obtain ⟨j, hj, rfl, hS⟩ := hrel
              replace S := hid hS
              clear hS
              have w' := wr
              have hbd := idK_bd YB (j - 44)
              by_cases hlt : j < 48
              · have e1 : idK l (j + 1 - 44) = idK l (j - 44) * 256 + gt l j := by rw [show j + 1 - 44 = (j - 44) + 1 by omega]; show _ * 256 + gt l (44 + (j - 44)) = _; rw [show 44 + (j - 44) = j by omega]
                have yk := YB.bd j
                have u1 : IntKind.u32.wrap (idK l (j - 44) * 256) = idK l (j - 44) * 256 := IntWalk.u32_in _ (by have := idK_small YB (k := j - 44) (by omega); omega)
                have u2 : IntKind.u32.wrap (gt l j) = gt l j := IntWalk.u32_in _ (by omega)
                have u3 : IntKind.u32.wrap (idK l (j - 44) * 256 + gt l j) = idK l (j + 1 - 44) := by rw [← e1]; exact IntWalk.u32_in _ (by have := idK_u32 YB (k := j + 1 - 44) (by omega); omega)
                have y3 : IntKind.i64.wrap ((j : Int) + 1) = (j : Int) + 1 := IntWalk.i64_in _ (by omega)
                have hd : decide ((j : Int) < 48) = true := by simp; omega
                have hix : (j : Int) < (l.length : Int) := by omega
                clear e1
                generalize hI : idK l (j + 1 - 44) = I2 at *
                generalize hI1 : idK l (j - 44) = I1 at *
                replace hI := hid hI
                clear hI1
                go_wp2_with (first
                  | go_skip
                  | ((with_reducible show Code.wp _ (Code.region 27 _ true) _ _ _)
                     refine wp_still_tail' 10 (by kernel_rfl) (by kernel_rfl) fun w' hS => ?_
                     replace S := hid (S.out.same hS)
                     clear hS
                     have c39 := ((S.out.pk 0 rfl).cells L1 L2).c39
                     have z := Z.out _ S.out.nil j (by omega)
                     simp only [List.take_succ_cons, List.take_zero, List.drop_succ_cons, List.drop_zero]
                     (repeat still_step)
                     clear c39 z
                     refine wpStill_nil ?_)
                  | ((with_reducible show wpList _ _ _ _ _ _); ((with_reducible show wpList _ _ _ (⟨_, .store _ _ _, _, _, _, _⟩ :: _) _ _); first | (first | (refine wpList_putW (by rfl) _ _ rfl rfl S.out _ rfl 0 _ rfl _ rfl (by first | rfl | assumption) (by first | rfl | assumption) (by first | rfl | assumption) (by first | rfl | assumption) (by first | rfl | assumption) (by first | rfl | assumption) ?_; intro w' hS; simp only [List.set] at hS; replace S := hid hS; clear hS) | (refine wpList_putW (by rfl) _ _ rfl rfl S.out _ rfl 1 _ rfl _ rfl (by first | rfl | assumption) (by first | rfl | assumption) (by first | rfl | assumption) (by first | rfl | assumption) (by first | rfl | assumption) (by first | rfl | assumption) ?_; intro w' hS; simp only [List.set] at hS; replace S := hid hS; clear hS) | (refine wpList_putW (by rfl) _ _ rfl rfl S.out _ rfl 2 _ rfl _ rfl (by first | rfl | assumption) (by first | rfl | assumption) (by first | rfl | assumption) (by first | rfl | assumption) (by first | rfl | assumption) (by first | rfl | assumption) ?_; intro w' hS; simp only [List.set] at hS; replace S := hid hS; clear hS) | (refine wpList_putW (by rfl) _ _ rfl rfl S.out _ rfl 3 _ rfl _ rfl (by first | rfl | assumption) (by first | rfl | assumption) (by first | rfl | assumption) (by first | rfl | assumption) (by first | rfl | assumption) (by first | rfl | assumption) ?_; intro w' hS; simp only [List.set] at hS; replace S := hid hS; clear hS) | (refine wpList_putW (by rfl) _ _ rfl rfl S.out _ rfl 4 _ rfl _ rfl (by first | rfl | assumption) (by first | rfl | assumption) (by first | rfl | assumption) (by first | rfl | assumption) (by first | rfl | assumption) (by first | rfl | assumption) ?_; intro w' hS; simp only [List.set] at hS; replace S := hid hS; clear hS)) | (first | (refine wpList_put_pk (by rfl) _ _ _ rfl rfl S.out _ _ rfl 0 _ rfl _ rfl _ rfl (by rfl) (by first | rfl | assumption) (by first | rfl | assumption) ?_; intro w' hS; simp only [List.set] at hS; replace S := hid hS; clear hS) | (refine wpList_put_pk (by rfl) _ _ _ rfl rfl S.out _ _ rfl 1 _ rfl _ rfl _ rfl (by rfl) (by first | rfl | assumption) (by first | rfl | assumption) ?_; intro w' hS; simp only [List.set] at hS; replace S := hid hS; clear hS) | (refine wpList_put_pk (by rfl) _ _ _ rfl rfl S.out _ _ rfl 2 _ rfl _ rfl _ rfl (by rfl) (by first | rfl | assumption) (by first | rfl | assumption) ?_; intro w' hS; simp only [List.set] at hS; replace S := hid hS; clear hS) | (refine wpList_put_pk (by rfl) _ _ _ rfl rfl S.out _ _ rfl 3 _ rfl _ rfl _ rfl (by rfl) (by first | rfl | assumption) (by first | rfl | assumption) ?_; intro w' hS; simp only [List.set] at hS; replace S := hid hS; clear hS) | (refine wpList_put_pk (by rfl) _ _ _ rfl rfl S.out _ _ rfl 4 _ rfl _ rfl _ rfl (by rfl) (by first | rfl | assumption) (by first | rfl | assumption) ?_; intro w' hS; simp only [List.set] at hS; replace S := hid hS; clear hS) | (refine wpList_put_pk (by rfl) _ _ _ rfl rfl S.out _ _ rfl 5 _ rfl _ rfl _ rfl (by rfl) (by first | rfl | assumption) (by first | rfl | assumption) ?_; intro w' hS; simp only [List.set] at hS; replace S := hid hS; clear hS)))))
                go_roundw
                case rel => exact ⟨j + 1, by omega, by simp, by have := S.out; rw [← hI.out] at this; exact this⟩
                case measure => simp [intOf]; omega
              · obtain rfl : j = 48 := by omega
                have hd : decide (((48 : Nat) : Int) < 48) = false := by decide
                have i48 : (48 : Int) ≤ (l.length : Int) := by omega
                have HB6 := hid hb6
                have ID0 := (idK_u32 YB (k := 48 - 44) (by omega)).1
                have ID1 := (idK_u32 YB (k := 48 - 44) (by omega)).2
                go_wp2_with (first
                | go_skip
                | ((with_reducible show Code.wp _ (Code.region 30 _ true) _ _ _)
                   refine wp_still_tail' 5 (by kernel_rfl) (by kernel_rfl) fun w' hS => ?_
                   replace S := hid (S.out.same hS)
                   clear hS
                   have c45 := ((S.out.pk 0 rfl).cells L1 L2).c45
                   simp only [List.take_succ_cons, List.take_zero, List.drop_succ_cons, List.drop_zero]
                   (repeat still_step)
                   clear c45
                   refine wpStill_nil ?_)
                | ((with_reducible show wpList _ _ _ _ _ _)
                   first
                   | ((with_reducible show wpList _ _ _ (⟨_, .binOp _ _ _ _ _, _, _, _, _⟩ :: _) _ _); refine wpList_cmp (by rfl) _ (by rfl) _ _ _ _ rfl _ (by go_simp; exact rfl) ?_ ?_ <;> (intro hc; (try simp only [decide_eq_true_eq, decide_eq_false_iff_not, Int.not_lt] at hc); (try (simp at hc; done)); (try (exfalso; omega))))
                   | (have HR := hid (HB.out.below S.out.bel); ((with_reducible show wpList _ _ _ (⟨_, .load _ _, _, _, _, _⟩ :: _) _ _); first | (refine wpList_get_rb (by rfl) _ rfl HR.out _ _ rfl rfl (by omega) ?_) | (refine wpList_get_rb (by rfl) _ rfl HR.out 0 _ rfl (by omega) (by omega) ?_)))
                   | (((with_reducible show wpList _ _ _ (⟨_, .load _ _, _, _, _, _⟩ :: _) _ _); first | (first | (refine wpList_getW (by rfl) _ rfl S.out _ rfl 0 _ rfl (by first | rfl | assumption) (by first | rfl | assumption) ?_) | (refine wpList_getW (by rfl) _ rfl S.out _ rfl 1 _ rfl (by first | rfl | assumption) (by first | rfl | assumption) ?_) | (refine wpList_getW (by rfl) _ rfl S.out _ rfl 2 _ rfl (by first | rfl | assumption) (by first | rfl | assumption) ?_) | (refine wpList_getW (by rfl) _ rfl S.out _ rfl 3 _ rfl (by first | rfl | assumption) (by first | rfl | assumption) ?_) | (refine wpList_getW (by rfl) _ rfl S.out _ rfl 4 _ rfl (by first | rfl | assumption) (by first | rfl | assumption) ?_) | (refine wpList_getW (by rfl) _ rfl S.out _ rfl 5 _ rfl (by first | rfl | assumption) (by first | rfl | assumption) ?_)) | (first | (refine wpList_get_pk (by rfl) _ _ rfl S.out _ _ rfl 0 _ rfl _ rfl (by rfl) (by first | rfl | assumption) (by first | rfl | assumption) ?_) | (refine wpList_get_pk (by rfl) _ _ rfl S.out _ _ rfl 1 _ rfl _ rfl (by rfl) (by first | rfl | assumption) (by first | rfl | assumption) ?_) | (refine wpList_get_pk (by rfl) _ _ rfl S.out _ _ rfl 2 _ rfl _ rfl (by rfl) (by first | rfl | assumption) (by first | rfl | assumption) ?_) | (refine wpList_get_pk (by rfl) _ _ rfl S.out _ _ rfl 3 _ rfl _ rfl (by rfl) (by first | rfl | assumption) (by first | rfl | assumption) ?_) | (refine wpList_get_pk (by rfl) _ _ rfl S.out _ _ rfl 4 _ rfl _ rfl (by rfl) (by first | rfl | assumption) (by first | rfl | assumption) ?_) | (refine wpList_get_pk (by rfl) _ _ rfl S.out _ _ rfl 5 _ rfl _ rfl (by rfl) (by first | rfl | assumption) (by first | rfl | assumption) ?_)))) | (((with_reducible show wpList _ _ _ (⟨_, .store _ _ _, _, _, _, _⟩ :: _) _ _); first | (first | (refine wpList_putW (by rfl) _ _ rfl rfl S.out _ rfl 0 _ rfl _ rfl (by first | rfl | assumption) (by first | rfl | assumption) (by first | rfl | assumption) (by first | rfl | assumption) (by first | rfl | assumption) (by first | rfl | assumption) ?_; intro w' hS; simp only [List.set] at hS; replace S := hid hS; clear hS) | (refine wpList_putW (by rfl) _ _ rfl rfl S.out _ rfl 1 _ rfl _ rfl (by first | rfl | assumption) (by first | rfl | assumption) (by first | rfl | assumption) (by first | rfl | assumption) (by first | rfl | assumption) (by first | rfl | assumption) ?_; intro w' hS; simp only [List.set] at hS; replace S := hid hS; clear hS) | (refine wpList_putW (by rfl) _ _ rfl rfl S.out _ rfl 2 _ rfl _ rfl (by first | rfl | assumption) (by first | rfl | assumption) (by first | rfl | assumption) (by first | rfl | assumption) (by first | rfl | assumption) (by first | rfl | assumption) ?_; intro w' hS; simp only [List.set] at hS; replace S := hid hS; clear hS) | (refine wpList_putW (by rfl) _ _ rfl rfl S.out _ rfl 3 _ rfl _ rfl (by first | rfl | assumption) (by first | rfl | assumption) (by first | rfl | assumption) (by first | rfl | assumption) (by first | rfl | assumption) (by first | rfl | assumption) ?_; intro w' hS; simp only [List.set] at hS; replace S := hid hS; clear hS) | (refine wpList_putW (by rfl) _ _ rfl rfl S.out _ rfl 4 _ rfl _ rfl (by first | rfl | assumption) (by first | rfl | assumption) (by first | rfl | assumption) (by first | rfl | assumption) (by first | rfl | assumption) (by first | rfl | assumption) ?_; intro w' hS; simp only [List.set] at hS; replace S := hid hS; clear hS)) | (first | (refine wpList_put_pk (by rfl) _ _ _ rfl rfl S.out _ _ rfl 0 _ rfl _ rfl _ rfl (by rfl) (by first | rfl | assumption) (by first | rfl | assumption) ?_; intro w' hS; simp only [List.set] at hS; replace S := hid hS; clear hS) | (refine wpList_put_pk (by rfl) _ _ _ rfl rfl S.out _ _ rfl 1 _ rfl _ rfl _ rfl (by rfl) (by first | rfl | assumption) (by first | rfl | assumption) ?_; intro w' hS; simp only [List.set] at hS; replace S := hid hS; clear hS) | (refine wpList_put_pk (by rfl) _ _ _ rfl rfl S.out _ _ rfl 2 _ rfl _ rfl _ rfl (by rfl) (by first | rfl | assumption) (by first | rfl | assumption) ?_; intro w' hS; simp only [List.set] at hS; replace S := hid hS; clear hS) | (refine wpList_put_pk (by rfl) _ _ _ rfl rfl S.out _ _ rfl 3 _ rfl _ rfl _ rfl (by rfl) (by first | rfl | assumption) (by first | rfl | assumption) ?_; intro w' hS; simp only [List.set] at hS; replace S := hid hS; clear hS) | (refine wpList_put_pk (by rfl) _ _ _ rfl rfl S.out _ _ rfl 4 _ rfl _ rfl _ rfl (by rfl) (by first | rfl | assumption) (by first | rfl | assumption) ?_; intro w' hS; simp only [List.set] at hS; replace S := hid hS; clear hS) | (refine wpList_put_pk (by rfl) _ _ _ rfl rfl S.out _ _ rfl 5 _ rfl _ rfl _ rfl (by rfl) (by first | rfl | assumption) (by first | rfl | assumption) ?_; intro w' hS; simp only [List.set] at hS; replace S := hid hS; clear hS)))) | ((with_reducible show wpList _ _ _ (⟨_, .store _ _ _, _, _, _, _⟩ :: _) _ _); first | (refine wpList_putW (by rfl) _ _ rfl rfl S.out _ rfl 0 _ rfl pk0 rfl (by first | rfl | assumption) (by first | rfl | assumption) (by first | rfl | assumption) (by first | rfl | assumption) rfl rfl ?_; intro w' hS; simp only [List.set] at hS; replace S := hid hS; clear hS) | (refine wpList_putW (by rfl) _ _ rfl rfl S.out _ rfl 1 _ rfl pk0 rfl (by first | rfl | assumption) (by first | rfl | assumption) (by first | rfl | assumption) (by first | rfl | assumption) rfl rfl ?_; intro w' hS; simp only [List.set] at hS; replace S := hid hS; clear hS) | (refine wpList_putW (by rfl) _ _ rfl rfl S.out _ rfl 2 _ rfl pk0 rfl (by first | rfl | assumption) (by first | rfl | assumption) (by first | rfl | assumption) (by first | rfl | assumption) rfl rfl ?_; intro w' hS; simp only [List.set] at hS; replace S := hid hS; clear hS) | (refine wpList_putW (by rfl) _ _ rfl rfl S.out _ rfl 3 _ rfl pk0 rfl (by first | rfl | assumption) (by first | rfl | assumption) (by first | rfl | assumption) (by first | rfl | assumption) rfl rfl ?_; intro w' hS; simp only [List.set] at hS; replace S := hid hS; clear hS))
                   | (at_builtin; have S2 : Sp w _ (.row (.slice none 0 0) 5 1 0 (bts []) :: _) := S.out.nilrow 5 1; refine wpList_grow (by rfl) _ _ rfl S2 0 rfl rfl _ (l.drop 48) rfl (Rb.back (HB.out.below S.out.bel) 48 (by omega)) (l.length - 48) (by simp) (by omega) ?_; rintro ca cc w' hS; simp only [List.set_cons_zero, List.nil_append] at hS; replace S := hid hS; clear hS S2))
                | (go_at_call 41; refine (AT.out _ S.out.nil _ 42 (by omega) (by omega)).mono ?_; rintro en w' ⟨rfl, hb⟩; replace S := hid (S.out.keep hb); clear hb)
                | (go_at_call 16; (refine (RG.out _ _ (l.drop 48) ⟨⟨Q1.out, Q2.out, ID0, ID1, rfl, rfl⟩, Rb.nil _, S.out.rb 0 rfl (YB.drop 48)⟩ (by have := HL.out; rw [List.length_drop]; omega)).mono ?_); rintro en w' ⟨r, HRR, rfl, hb⟩; replace S := hid (S.out.keep hb); clear hb; cases r))
                all_goals
                  have h41 := HB6.out
                  have hfr : fr6 l = true := by unfold fr6; simpa using HB6.out
                  have hfm : from6 l = 48 := by unfold from6; rw [hfr]; rfl
                  have hq := fun v => p6K_fr (v := v) hfr hT6.out hF6.out hsd.out.1 hsd.out.2 hPL.out.2 HM.out
                  have hEE := EE.out
                  unfold p6E at hEE
                  have hw2 : wordL l 42 = 256 * gt l 42 + gt l 43 := rfl
                  simp only [bne_iff_ne, bne_eq_false_iff_eq, beq_iff_eq, beq_eq_false_iff_ne, ne_eq] at *
                all_goals first
                  | (refine post_pk Try.results20 rfl _ pk0 _ rfl rfl (by first | exact S.out.pk 1 rfl | exact S.out.pk 2 rfl) rfl rfl ?_
                     have he : e = 50 := by
                       rw [hEE]
                       first
                       | (have hr := p6_right (l := l) HRR.out (hq _) (by rw [hfm, List.length_drop]); rw [if_neg (by omega), if_neg (by omega), if_neg (by omega), if_neg (by omega), if_neg (by omega), if_neg (by rw [hr]; decide)])
                       | (rw [if_neg (by omega), if_neg (by omega), if_neg (by omega), if_neg (by omega), if_pos (by omega)])
                     show P6Post e l w (.returned (.tuple #[.agg (pkC pk0), .int .i64 50])) _
                     rw [he]
                     exact P6Post.err (by decide) S.out.bel)
                  | (have hr := p6_right (l := l) HRR.out (hq _) (by rw [hfm, List.length_drop])
                     have he : e = 0 := by rw [hEE, if_neg (by omega), if_neg (by omega), if_neg (by omega), if_neg (by omega), if_neg (by omega), if_pos hr]
                     refine post_pk Try.results20 rfl _ _ _ rfl rfl (S.out.pk 2 rfl) L1 L2 ?_
                     exact P6Post.okS he S.out hfm (hq _))
        · have hb6 : (gt l 6 == 44) = false := by simp [h44]
          have HB6 := hid hb6
          have ID0 : (0 : Int) ≤ 0 := by decide
          have ID1 : (0 : Int) ≤ 4294967295 := by decide
          go_wp2_with (first
            | go_skip
            | ((with_reducible show Code.wp _ (Code.region 30 _ true) _ _ _)
               refine wp_still_tail' 5 (by kernel_rfl) (by kernel_rfl) fun w' hS => ?_
               replace S := hid (S.out.same hS)
               clear hS
               have c45 := ((S.out.pk 0 rfl).cells L1 L2).c45
               simp only [List.take_succ_cons, List.take_zero, List.drop_succ_cons, List.drop_zero]
               (repeat still_step)
               clear c45
               refine wpStill_nil ?_)
            | ((with_reducible show wpList _ _ _ _ _ _)
               first
               | ((with_reducible show wpList _ _ _ (⟨_, .binOp _ _ _ _ _, _, _, _, _⟩ :: _) _ _); refine wpList_cmp (by rfl) _ (by rfl) _ _ _ _ rfl _ (by go_simp; exact rfl) ?_ ?_ <;> (intro hc; (try simp only [decide_eq_true_eq, decide_eq_false_iff_not, Int.not_lt] at hc); (try (simp at hc; done)); (try (exfalso; omega))))
               | (have HR := hid (HB.out.below S.out.bel); ((with_reducible show wpList _ _ _ (⟨_, .load _ _, _, _, _, _⟩ :: _) _ _); first | (refine wpList_get_rb (by rfl) _ rfl HR.out _ _ rfl rfl (by omega) ?_) | (refine wpList_get_rb (by rfl) _ rfl HR.out 0 _ rfl (by omega) (by omega) ?_)))
               | (((with_reducible show wpList _ _ _ (⟨_, .load _ _, _, _, _, _⟩ :: _) _ _); first | (first | (refine wpList_getW (by rfl) _ rfl S.out _ rfl 0 _ rfl (by first | rfl | assumption) (by first | rfl | assumption) ?_) | (refine wpList_getW (by rfl) _ rfl S.out _ rfl 1 _ rfl (by first | rfl | assumption) (by first | rfl | assumption) ?_) | (refine wpList_getW (by rfl) _ rfl S.out _ rfl 2 _ rfl (by first | rfl | assumption) (by first | rfl | assumption) ?_) | (refine wpList_getW (by rfl) _ rfl S.out _ rfl 3 _ rfl (by first | rfl | assumption) (by first | rfl | assumption) ?_) | (refine wpList_getW (by rfl) _ rfl S.out _ rfl 4 _ rfl (by first | rfl | assumption) (by first | rfl | assumption) ?_) | (refine wpList_getW (by rfl) _ rfl S.out _ rfl 5 _ rfl (by first | rfl | assumption) (by first | rfl | assumption) ?_)) | (first | (refine wpList_get_pk (by rfl) _ _ rfl S.out _ _ rfl 0 _ rfl _ rfl (by rfl) (by first | rfl | assumption) (by first | rfl | assumption) ?_) | (refine wpList_get_pk (by rfl) _ _ rfl S.out _ _ rfl 1 _ rfl _ rfl (by rfl) (by first | rfl | assumption) (by first | rfl | assumption) ?_) | (refine wpList_get_pk (by rfl) _ _ rfl S.out _ _ rfl 2 _ rfl _ rfl (by rfl) (by first | rfl | assumption) (by first | rfl | assumption) ?_) | (refine wpList_get_pk (by rfl) _ _ rfl S.out _ _ rfl 3 _ rfl _ rfl (by rfl) (by first | rfl | assumption) (by first | rfl | assumption) ?_) | (refine wpList_get_pk (by rfl) _ _ rfl S.out _ _ rfl 4 _ rfl _ rfl (by rfl) (by first | rfl | assumption) (by first | rfl | assumption) ?_) | (refine wpList_get_pk (by rfl) _ _ rfl S.out _ _ rfl 5 _ rfl _ rfl (by rfl) (by first | rfl | assumption) (by first | rfl | assumption) ?_)))) | (((with_reducible show wpList _ _ _ (⟨_, .store _ _ _, _, _, _, _⟩ :: _) _ _); first | (first | (refine wpList_putW (by rfl) _ _ rfl rfl S.out _ rfl 0 _ rfl _ rfl (by first | rfl | assumption) (by first | rfl | assumption) (by first | rfl | assumption) (by first | rfl | assumption) (by first | rfl | assumption) (by first | rfl | assumption) ?_; intro w' hS; simp only [List.set] at hS; replace S := hid hS; clear hS) | (refine wpList_putW (by rfl) _ _ rfl rfl S.out _ rfl 1 _ rfl _ rfl (by first | rfl | assumption) (by first | rfl | assumption) (by first | rfl | assumption) (by first | rfl | assumption) (by first | rfl | assumption) (by first | rfl | assumption) ?_; intro w' hS; simp only [List.set] at hS; replace S := hid hS; clear hS) | (refine wpList_putW (by rfl) _ _ rfl rfl S.out _ rfl 2 _ rfl _ rfl (by first | rfl | assumption) (by first | rfl | assumption) (by first | rfl | assumption) (by first | rfl | assumption) (by first | rfl | assumption) (by first | rfl | assumption) ?_; intro w' hS; simp only [List.set] at hS; replace S := hid hS; clear hS) | (refine wpList_putW (by rfl) _ _ rfl rfl S.out _ rfl 3 _ rfl _ rfl (by first | rfl | assumption) (by first | rfl | assumption) (by first | rfl | assumption) (by first | rfl | assumption) (by first | rfl | assumption) (by first | rfl | assumption) ?_; intro w' hS; simp only [List.set] at hS; replace S := hid hS; clear hS) | (refine wpList_putW (by rfl) _ _ rfl rfl S.out _ rfl 4 _ rfl _ rfl (by first | rfl | assumption) (by first | rfl | assumption) (by first | rfl | assumption) (by first | rfl | assumption) (by first | rfl | assumption) (by first | rfl | assumption) ?_; intro w' hS; simp only [List.set] at hS; replace S := hid hS; clear hS)) | (first | (refine wpList_put_pk (by rfl) _ _ _ rfl rfl S.out _ _ rfl 0 _ rfl _ rfl _ rfl (by rfl) (by first | rfl | assumption) (by first | rfl | assumption) ?_; intro w' hS; simp only [List.set] at hS; replace S := hid hS; clear hS) | (refine wpList_put_pk (by rfl) _ _ _ rfl rfl S.out _ _ rfl 1 _ rfl _ rfl _ rfl (by rfl) (by first | rfl | assumption) (by first | rfl | assumption) ?_; intro w' hS; simp only [List.set] at hS; replace S := hid hS; clear hS) | (refine wpList_put_pk (by rfl) _ _ _ rfl rfl S.out _ _ rfl 2 _ rfl _ rfl _ rfl (by rfl) (by first | rfl | assumption) (by first | rfl | assumption) ?_; intro w' hS; simp only [List.set] at hS; replace S := hid hS; clear hS) | (refine wpList_put_pk (by rfl) _ _ _ rfl rfl S.out _ _ rfl 3 _ rfl _ rfl _ rfl (by rfl) (by first | rfl | assumption) (by first | rfl | assumption) ?_; intro w' hS; simp only [List.set] at hS; replace S := hid hS; clear hS) | (refine wpList_put_pk (by rfl) _ _ _ rfl rfl S.out _ _ rfl 4 _ rfl _ rfl _ rfl (by rfl) (by first | rfl | assumption) (by first | rfl | assumption) ?_; intro w' hS; simp only [List.set] at hS; replace S := hid hS; clear hS) | (refine wpList_put_pk (by rfl) _ _ _ rfl rfl S.out _ _ rfl 5 _ rfl _ rfl _ rfl (by rfl) (by first | rfl | assumption) (by first | rfl | assumption) ?_; intro w' hS; simp only [List.set] at hS; replace S := hid hS; clear hS)))) | ((with_reducible show wpList _ _ _ (⟨_, .store _ _ _, _, _, _, _⟩ :: _) _ _); first | (refine wpList_putW (by rfl) _ _ rfl rfl S.out _ rfl 0 _ rfl pk0 rfl (by first | rfl | assumption) (by first | rfl | assumption) (by first | rfl | assumption) (by first | rfl | assumption) rfl rfl ?_; intro w' hS; simp only [List.set] at hS; replace S := hid hS; clear hS) | (refine wpList_putW (by rfl) _ _ rfl rfl S.out _ rfl 1 _ rfl pk0 rfl (by first | rfl | assumption) (by first | rfl | assumption) (by first | rfl | assumption) (by first | rfl | assumption) rfl rfl ?_; intro w' hS; simp only [List.set] at hS; replace S := hid hS; clear hS) | (refine wpList_putW (by rfl) _ _ rfl rfl S.out _ rfl 2 _ rfl pk0 rfl (by first | rfl | assumption) (by first | rfl | assumption) (by first | rfl | assumption) (by first | rfl | assumption) rfl rfl ?_; intro w' hS; simp only [List.set] at hS; replace S := hid hS; clear hS) | (refine wpList_putW (by rfl) _ _ rfl rfl S.out _ rfl 3 _ rfl pk0 rfl (by first | rfl | assumption) (by first | rfl | assumption) (by first | rfl | assumption) (by first | rfl | assumption) rfl rfl ?_; intro w' hS; simp only [List.set] at hS; replace S := hid hS; clear hS))
               | (at_builtin; have S2 : Sp w _ (.row (.slice none 0 0) 5 1 0 (bts []) :: _) := S.out.nilrow 5 1; refine wpList_grow (by rfl) _ _ rfl S2 0 rfl rfl _ (l.drop 40) rfl (Rb.back (HB.out.below S.out.bel) 40 (by omega)) (l.length - 40) (by simp) (by omega) ?_; rintro ca cc w' hS; simp only [List.set_cons_zero, List.nil_append] at hS; replace S := hid hS; clear hS S2))
            | (go_at_call 41; refine (AT.out _ S.out.nil _ 42 (by omega) (by omega)).mono ?_; rintro en w' ⟨rfl, hb⟩; replace S := hid (S.out.keep hb); clear hb)
            | (go_at_call 16; (refine (RG.out _ _ (l.drop 40) ⟨⟨Q1.out, Q2.out, ID0, ID1, rfl, rfl⟩, Rb.nil _, S.out.rb 0 rfl (YB.drop 40)⟩ (by have := HL.out; rw [List.length_drop]; omega)).mono ?_); rintro en w' ⟨r, HRR, rfl, hb⟩; replace S := hid (S.out.keep hb); clear hb; cases r))
          all_goals
            have h41 := HB6.out
            have hfr : fr6 l = false := by unfold fr6; simpa using HB6.out
            have hfm : from6 l = 40 := by unfold from6; rw [hfr]; rfl
            have hq := fun v => p6K_no (v := v) hfr hT6.out hF6.out hsd.out.1 hsd.out.2 hPL.out.1 hPL.out.2
            have hEE := EE.out
            unfold p6E at hEE
            have hw2 : wordL l 42 = 256 * gt l 42 + gt l 43 := rfl
            simp only [bne_iff_ne, bne_eq_false_iff_eq, beq_iff_eq, beq_eq_false_iff_ne, ne_eq] at *
          all_goals first
            | (refine post_pk Try.results20 rfl _ pk0 _ rfl rfl (by first | exact S.out.pk 1 rfl | exact S.out.pk 2 rfl) rfl rfl ?_
               have he : e = 50 := by
                 rw [hEE]
                 first
                 | (have hr := p6_right (l := l) HRR.out (hq _) (by rw [hfm, List.length_drop]); rw [if_neg (by omega), if_neg (by omega), if_neg (by omega), if_neg (by omega), if_neg (by omega), if_neg (by rw [hr]; decide)])
                 | (rw [if_neg (by omega), if_neg (by omega), if_neg (by omega), if_neg (by omega), if_pos (by omega)])
               show P6Post e l w (.returned (.tuple #[.agg (pkC pk0), .int .i64 50])) _
               rw [he]
               exact P6Post.err (by decide) S.out.bel)
            | (have hr := p6_right (l := l) HRR.out (hq _) (by rw [hfm, List.length_drop])
               have he : e = 0 := by rw [hEE, if_neg (by omega), if_neg (by omega), if_neg (by omega), if_neg (by omega), if_neg (by omega), if_pos hr]
               refine post_pk Try.results20 rfl _ _ _ rfl rfl (S.out.pk 2 rfl) L1 L2 ?_
               exact P6Post.okS he S.out hfm (hq _))
end Go.Proofs.Ythbdnmmmibdgpaa
