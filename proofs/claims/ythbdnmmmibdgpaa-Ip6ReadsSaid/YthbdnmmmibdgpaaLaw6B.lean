/-
  The statement Ip6Back, walked.
-/
import Derived.Test.YthbdnmmmibdgpaaPl6
namespace Go.Proofs.Ythbdnmmmibdgpaa
open Go.RowKit

theorem sameK_refl (p : Pk) (ov xv : Value) (ld : List Int) : sameK { p with ov := ov, xv := xv } p [] [] ld ld = true := by simp [sameK]
/-- the contracts for a right packet with no options, whatever its list's slice is -/
structure RP (W : World) (q : Pk) (xs : List Int) : Prop where
  is : IsPk q
  ov : q.ov = .slice none 0 0
  xR : Rb W q.xv xs
theorem RP.pin {W : World} {q : Pk} {xs : List Int} (h : RP W q xs) : Pin W q [] xs := ⟨h.is, by rw [h.ov]; exact Rb.nil W, h.xR⟩
/-- a packet and its copy: fields alike -/
def pkX (q : Pk) (o x : Value) : Pk := { q with ov := o, xv := x }
theorem pkX_is {q : Pk} (h : IsPk q) {o x : Value} (ho : o.oneCell' = true) (hx : x.oneCell' = true) : IsPk (pkX q o x) := ⟨h.src, h.dst, h.id0, h.id1, ho, hx⟩
/-- Parse of a right packet's bytes -/
def PRt (q : Pk) (xs : List Int) (n : Nat) (w : World) (en : Ending) (w' : World) : Prop :=
  ∃ s c, en = .returned (.tuple #[.agg (pkC (pkX q (.slice none 0 0) (.slice s n c))), .int .i64 0]) ∧ Sp w w' [.row (.slice s n c) 5 1 n (bts xs)]
theorem par_right {q : Pk} {xs : List Int} (hq : IsPk q) (hr : right6 q 0 xs.length = true) (v : Value) (w : World) (h : Rb w v (b6L q xs)) : Calls Try.prog 19 #[v] w (PRt q xs xs.length w) := by
  obtain ⟨b1, b2, b3, b4⟩ := back6 hq hr
  refine (parse6_any v _ w h).mono fun en w' ⟨hb, _, h2⟩ => ?_
  obtain ⟨s, c, he, ho⟩ := h2 b1
  rw [b4] at he
  rw [b2] at ho
  rw [show (b6L q xs).length - from6 (b6L q xs) = xs.length by omega] at he ho
  exact ⟨s, c, he, Sp.ofOwn ho hb⟩
def OwnX (q : Pk) (lo ld : List Int) (n m : Nat) (w : World) (en : Ending) (w' : World) : Prop :=
  ∃ so co sx cx, en = .returned (.agg (pkC (pkX q (.slice so n co) (.slice sx m cx)))) ∧ Sp w w' [.row (.slice sx m cx) 5 1 m (bts ld), .row (.slice so n co) 5 1 n (bts lo)]
theorem own_x (q : Pk) (ld : List Int) (w : World) (h : Pin w q [] ld) (hl : ld.length ≤ 140737488355328) : Calls Try.prog 12 #[.agg (pkC q)] w (OwnX q [] ld 0 ld.length w) :=
  own6_any q [] ld w h ⟨by show (0 : Nat) ≤ _; omega, hl⟩
theorem bld_right {q : Pk} {xs : List Int} (o x : Value) (w : World) (h : Pin w (pkX q o x) [] xs) (hr : right6 q 0 xs.length = true) : Calls Try.prog 11 #[.agg (pkC (pkX q o x))] w (BB 0 (b6L q xs).length (b6L q xs) w) :=
  (build6_yes (pkX q o x) [] xs w h hr).mono fun _ _ h => B6Post.bb (l := b6L q xs) h rfl
theorem rgt_right {q : Pk} {xs : List Int} (o x : Value) (w : World) (h : Pin w (pkX q o x) [] xs) (hr : right6 q 0 xs.length = true) : Calls Try.prog 15 #[.agg (pkC (pkX q o x))] w (APost w (.bool true)) := by
  have := right6_any (pkX q o x) [] xs w h
  rwa [show right6 (pkX q o x) ([] : List Int).length xs.length = true from hr] at this
theorem hd_right {q : Pk} {xs : List Int} (o x : Value) (w : World) (h : Pin w (pkX q o x) [] xs) (hr : right6 q 0 xs.length = true) : Calls Try.prog 17 #[.agg (pkC (pkX q o x))] w (APost w (.int .i64 (head6 q))) := by
  have := Head6_any (pkX q o x) [] xs w h
  rwa [show right6 (pkX q o x) ([] : List Int).length xs.length = true from hr, if_pos rfl] at this
theorem same_x {q : Pk} {xs : List Int} (x y : Value) (w : World) (hq : IsPk q) (h1 : Rb w x xs) (h2 : Rb w y xs) (o1 : x.oneCell' = true) (o2 : y.oneCell' = true) :
    Calls Try.prog 21 #[.agg (pkC (pkX q (.slice none 0 0) x)), .agg (pkC (pkX q (.slice none 0 0) y))] w (APost w (.bool true)) :=
  (samePacket6_any (pkX q (.slice none 0 0) x) (pkX q (.slice none 0 0) y) [] [] xs xs w (pkX_is hq rfl o1) (pkX_is hq rfl o2) (Rb.nil w) (Rb.nil w) h1 h2).mono fun en w' ⟨he, hb⟩ => ⟨he.trans (congrArg (fun b => Ending.returned (.bool b)) (by simp [sameK, pkX])), hb⟩
theorem fit_x (p : Pk) (n : Nat) (v : Value) : fitK p n v = pkX (fitK p n (.slice none 0 0)) (.slice none 0 0) v := rfl
theorem p6K_x (l : List Int) (v : Value) : p6K l v = pkX (p6K l (.slice none 0 0)) (.slice none 0 0) v := rfl
/-- fit, told with pkX -/
def FitX (q : Pk) (xs : List Int) (n : Nat) (w : World) (en : Ending) (w' : World) : Prop :=
  ∃ sx cx, en = .returned (.agg (pkC (pkX q (.slice none 0 0) (.slice sx n cx)))) ∧ Sp w w' [.row (.slice sx n cx) 5 1 n (bts xs)]
theorem fit_any_x (p : Pk) (lo ld : List Int) (w : World) (h : Pin w p lo ld) (hl : lo.length ≤ 140737488355328 ∧ ld.length ≤ 140737488355328) :
    Calls Try.prog 22 #[.agg (pkC p)] w (FitX (fitK p ld.length (.slice none 0 0)) (ld.take (fitN p ld.length)) (ld.take (fitN p ld.length)).length w) := by
  have e : (ld.take (fitN p ld.length)).length = fitN p ld.length := by have := fitN_le p ld.length; simp; omega
  rw [e]
  exact fit6_any p lo ld w h hl
/-- a right packet that fit made -/
theorem fit_q (p : Pk) (lo ld : List Int) (w : World) (h : Pin w p lo ld) : ∃ q xs, Byt xs ∧ IsPk q ∧ q.ov = .slice none 0 0 ∧ right6 q 0 xs.length = true ∧ xs.length ≤ ld.length ∧ q = fitK p ld.length (.slice none 0 0) ∧ xs = ld.take (fitN p ld.length) := by
  refine ⟨_, _, h.xR.byt.take _, fit_is h.pk _ _ rfl, rfl, ?_, ?_, rfl, rfl⟩
  · have e : (ld.take (fitN p ld.length)).length = fitN p ld.length := by have := fitN_le p ld.length; simp; omega
    rw [e]; exact fit_right p ld.length _
  · simp; omega
/-- the contracts that speak of one right packet q with the bytes xs and the packet's bytes bl -/
structure RC (q : Pk) (xs bl : List Int) (n nb : Nat) : Prop where
  own : ∀ W x, Rb W x xs → x.oneCell' = true → Calls Try.prog 12 #[.agg (pkC (pkX q (.slice none 0 0) x))] W (OwnX q [] xs 0 n W)
  bld : ∀ W o x, Pin W (pkX q o x) [] xs → Calls Try.prog 11 #[.agg (pkC (pkX q o x))] W (BB 0 nb bl W)
  par : ∀ W v, Rb W v bl → Calls Try.prog 19 #[v] W (PRt q xs n W)
  same : ∀ W x y, Rb W x xs → Rb W y xs → x.oneCell' = true → y.oneCell' = true → Calls Try.prog 21 #[.agg (pkC (pkX q (.slice none 0 0) x)), .agg (pkC (pkX q (.slice none 0 0) y))] W (APost W (.bool true))
  rgt : ∀ W o x, Pin W (pkX q o x) [] xs → Calls Try.prog 15 #[.agg (pkC (pkX q o x))] W (APost W (.bool true))
  hd : ∀ W o x, Pin W (pkX q o x) [] xs → Calls Try.prog 17 #[.agg (pkC (pkX q o x))] W (APost W (.int .i64 (head6 q)))
  pin : ∀ {W W' so co sx cx}, Sp W W' [.row (.slice sx n cx) 5 1 n (bts xs), .row (.slice so 0 co) 5 1 0 (bts [])] → Pin W' (pkX q (.slice so 0 co) (.slice sx n cx)) [] xs
  yx : Byt xs
  yb : Byt bl
  ln : xs.length = n
  lb : bl.length = nb
  small : nb ≤ 65575
  l1 : q.sB.length = 16
  l2 : q.dB.length = 16
  hn : (nb : Int) = head6 q + n ∧ (head6 q = 40 ∨ head6 q = 48)
theorem rc_of {q : Pk} {xs : List Int} (hq : IsPk q) (yx : Byt xs) (hr : right6 q 0 xs.length = true) : RC q xs (b6L q xs) xs.length (b6L q xs).length := by
  obtain ⟨_, _, _, _, _, t5, t6, t7, t8⟩ := right6_parts hr
  have hl := b6L_len (xs := xs) hq.src.len hq.dst.len
  have hh : head6 q = 40 ∨ head6 q = 48 := by unfold head6; split <;> simp
  refine ⟨fun W x h o => own_x (pkX q (.slice none 0 0) x) xs W ⟨pkX_is hq rfl o, Rb.nil W, h⟩ (by omega), fun W o x h => bld_right o x W h hr, fun W v h => par_right hq hr v W h, fun W x y h1 h2 o1 o2 => same_x x y W hq h1 h2 o1 o2,
    fun W o x h => rgt_right o x W h hr, fun W o x h => hd_right o x W h hr, fun S => ⟨pkX_is hq rfl rfl, S.rb 1 rfl Byt.nil, S.rb 0 rfl yx⟩, yx, b6L_byt hq yx, rfl, rfl, ?_, hq.src.len, hq.dst.len, hl, hh⟩
  unfold head6 at hl
  cases hf : q.Frag
  · rw [hf, if_neg (by decide)] at hl; omega
  · rw [hf, if_pos rfl] at hl; have := (t7 hf).1; omega
theorem same_zero (w : World) : Calls Try.prog 21 #[.agg (pkC pk0), .agg #[.int .i64 0, .int .i64 0, .int .i64 0, .int .i64 0, .int .u8 0, .int .u8 0, .int .u8 0, .int .u8 0, .int .u8 0, .int .u8 0, .int .u8 0, .int .u8 0, .int .u8 0, .int .u8 0, .int .u8 0, .int .u8 0, .int .u8 0, .int .u8 0, .int .u8 0, .int .u8 0, .int .i64 0, .int .u8 0, .int .u8 0, .int .u8 0, .int .u8 0, .int .u8 0, .int .u8 0, .int .u8 0, .int .u8 0, .int .u8 0, .int .u8 0, .int .u8 0, .int .u8 0, .int .u8 0, .int .u8 0, .int .u8 0, .int .u8 0, .int .i64 0, .int .i64 0, .int .u32 0, .bool false, .bool false, .bool false, .int .i64 0, .slice none 0 0, .slice none 0 0]] w (APost w (.bool true)) :=
  (samePacket6_any pk0 pk0 [] [] [] [] w pk0_is pk0_is (Rb.nil w) (Rb.nil w) (Rb.nil w) (Rb.nil w)).mono fun en w' ⟨he, hb⟩ => ⟨he.trans (congrArg (fun b => Ending.returned (.bool b)) (by rfl)), hb⟩
theorem par_no {l : List Int} (he : p6E l ≠ 0) (v : Value) (w : World) (h : Rb w v l) : Calls Try.prog 19 #[v] w (APost w (.tuple #[.agg (pkC pk0), .int .i64 (p6E l)])) :=
  (parse6_any v l w h).mono fun en w' ⟨hb, h1, _⟩ => ⟨h1 he, hb⟩
end Go.Proofs.Ythbdnmmmibdgpaa
