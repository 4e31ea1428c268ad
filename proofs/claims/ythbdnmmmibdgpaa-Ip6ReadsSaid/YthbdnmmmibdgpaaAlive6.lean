/-
  The statements' own words of chapter 6: alive.
-/
import Derived.Test.YthbdnmmmibdgpaaPiece6
import Derived.Test.YthbdnmmmibdgpaaIp6P
namespace Go.Proofs.Ythbdnmmmibdgpaa
open Go.RowKit

def pieceL : List Int := [96, 0, 0, 0, 0, 24, 44, 64] ++ srcB ++ dstB ++ [17, 0, 0, 9, 0, 0, 0, 7] ++ upTo 16
theorem piece_len : pieceL.length = 64 := rfl
theorem piece_b6 (v : Value) : b6L (piece6 v) (upTo 16) = pieceL := rfl
theorem piece_right (v : Value) : right6 (piece6 v) 0 16 = true := rfl
theorem piece_head (v : Value) : head6 (piece6 v) = 48 := rfl
theorem srcB_is : IsA 6 srcB := ⟨rfl, lit_bytes (by decide), by decide, by decide⟩
theorem dstB_is : IsA 6 dstB := ⟨rfl, lit_bytes (by decide), by decide, by decide⟩
theorem piece_is (v : Value) (h : v.oneCell' = true) : IsPk (piece6 v) := ⟨srcB_is, dstB_is, (by show (0 : Int) ≤ 7; decide), (by show (7 : Int) ≤ 4294967295; decide), rfl, h⟩
theorem pieceL_byt : Byt pieceL := lit_bytes (by decide)
theorem piece_e : p6E pieceL = 0 := by decide
theorem piece_e1 : p6E (pieceL.set 41 1) = 50 := by decide
theorem piece_k (v : Value) : p6K pieceL v = piece6 v := by rfl
theorem piece_from : from6 pieceL = 48 := by rfl
theorem piece_drop : pieceL.drop 48 = upTo 16 := by rfl
theorem piece_in {w : World} {v : Value} (h : Rb w v (upTo 16)) (hv : v.oneCell' = true) : Pin w (piece6 v) [] (upTo 16) := ⟨piece_is v hv, Rb.nil w, h⟩
def PBld (w : World) (en : Ending) (w' : World) : Prop := ∃ g c, en = .returned (.tuple #[.slice (some ⟨g, 0, none⟩) 64 c, .int .i64 0]) ∧ Sp w w' [.row (.slice (some ⟨g, 0, none⟩) 64 c) 5 1 64 (bts pieceL)]
theorem piece_bld (v : Value) (w : World) (h : Rb w v (upTo 16)) (hv : v.oneCell' = true) : Calls Try.prog 11 #[.agg (pkC (piece6 v))] w (PBld w) :=
  (build6_yes (piece6 v) [] (upTo 16) w (piece_in h hv) (piece_right v)).mono fun en w' ⟨u, he, ho, hb⟩ => by
    rw [piece_b6] at ho
    have S : Sp w w' [.row u 5 1 64 (bts pieceL)] := Sp.ofOwn ho hb
    obtain ⟨g, c, rfl⟩ := S.rowopen 0 rfl (by decide)
    exact ⟨g, c, he, S⟩
def PPar (w : World) (en : Ending) (w' : World) : Prop := ∃ s c, en = .returned (.tuple #[.agg (pkC (piece6 (.slice s 16 c))), .int .i64 0]) ∧ Sp w w' [.row (.slice s 16 c) 5 1 16 (bts (upTo 16))]
theorem piece_par (v : Value) (w : World) (h : Rb w v pieceL) : Calls Try.prog 19 #[v] w (PPar w) :=
  (parse6_any v pieceL w h).mono fun en w' ⟨hb, _, h2⟩ => by
    obtain ⟨s, c, he, ho⟩ := h2 piece_e
    exact ⟨s, c, he, Sp.ofOwn ho hb⟩
theorem piece_par1 (v : Value) (w : World) (h : Rb w v (pieceL.set 41 1)) : Calls Try.prog 19 #[v] w (APost w (.tuple #[.agg (pkC pk0), .int .i64 50])) :=
  (parse6_any v (pieceL.set 41 1) w h).mono fun en w' ⟨hb, h1, _⟩ => by
    rw [piece_e1] at h1
    exact ⟨h1 (by decide), hb⟩
theorem piece_same (v u : Value) (w : World) (h : Rb w v (upTo 16)) (h2 : Rb w u (upTo 16)) (hv : v.oneCell' = true) (hu : u.oneCell' = true) : Calls Try.prog 21 #[.agg (pkC (piece6 v)), .agg (pkC (piece6 u))] w (APost w (.bool true)) :=
  (samePacket6_any (piece6 v) (piece6 u) [] [] (upTo 16) (upTo 16) w (piece_is v hv) (piece_is u hu) (Rb.nil w) (Rb.nil w) h h2).mono fun en w' ⟨he, hb⟩ => ⟨he.trans (congrArg (fun b => Ending.returned (.bool b)) (by rfl)), hb⟩
theorem piece_rgt (v : Value) (w : World) (h : Rb w v (upTo 16)) (hv : v.oneCell' = true) : Calls Try.prog 15 #[.agg (pkC (piece6 v))] w (APost w (.bool true)) := by
  have := right6_any (piece6 v) [] (upTo 16) w (piece_in h hv)
  rwa [show ([] : List Int).length = 0 from rfl, upTo_len, piece_right] at this
theorem piece_hd (v : Value) (w : World) (h : Rb w v (upTo 16)) (hv : v.oneCell' = true) : Calls Try.prog 17 #[.agg (pkC (piece6 v))] w (APost w (.int .i64 48)) := by
  have := Head6_any (piece6 v) [] (upTo 16) w (piece_in h hv)
  rwa [show ([] : List Int).length = 0 from rfl, upTo_len, piece_right, if_pos rfl, piece_head] at this
set_option maxHeartbeats 4000000 in
set_option maxRecDepth 20000 in
theorem alive6_any (w : World) : Calls Try.prog 10 #[] w (APost w (.bool true)) := by
  have S := hid (Sp.refl w)
  have P := hid (fun en w' (h1 : en = .returned (.bool true)) (h2 : Sp w w' []) => show APost w (.bool true) en w' from ⟨h1, h2.bel⟩)
  have BU : Byt (upTo 16) := upTo_byt (by decide)
  have BP : Byt pieceL := pieceL_byt
  have BQ : Byt (pieceL.set 41 1) := BP.set 41 (by decide) (by decide)
  have q0 : gt pieceL 0 = 96 := rfl
  have q5 : gt pieceL 5 = 24 := rfl
  have q6 : gt pieceL 6 = 44 := rfl
  have q40 : gt pieceL 40 = 17 := rfl
  have q43 : gt pieceL 43 = 9 := rfl
  have q47 : gt pieceL 47 = 7 := rfl
  have q63 : gt pieceL 63 = 15 := rfl
  have q39 : gt pieceL 39 = 2 := rfl
  go_enter Try.func10, Try.ntmps10
  go_wp2_with (first
    | go_skip
    | (((with_reducible show wpList _ _ _ (_ :: _) _ (World.alloc _ (.cells _ 28))); refine wpList_world fun w' hw2 => ?_; replace S := hid (show Sp _ _ (.blk _ (pkC pk0) 28 :: _) from S.out.alloc hw2); clear hw2))
    | ((with_reducible show wpList _ _ _ _ _ _)
       first
       | ((with_reducible show wpList _ _ _ (⟨_, .store _ _ _, _, _, _, _⟩ :: _) _ _); first | (first | (refine wpList_putW (by rfl) _ _ rfl rfl S.out _ rfl 0 _ rfl _ rfl (by first | rfl | assumption) (by first | rfl | assumption) (by first | rfl | assumption) (by first | rfl | assumption) (by first | rfl | assumption) (by first | rfl | assumption) ?_; intro w' hS; simp only [List.set] at hS; replace S := hid hS; clear hS) | (refine wpList_putW (by rfl) _ _ rfl rfl S.out _ rfl 1 _ rfl _ rfl (by first | rfl | assumption) (by first | rfl | assumption) (by first | rfl | assumption) (by first | rfl | assumption) (by first | rfl | assumption) (by first | rfl | assumption) ?_; intro w' hS; simp only [List.set] at hS; replace S := hid hS; clear hS) | (refine wpList_putW (by rfl) _ _ rfl rfl S.out _ rfl 2 _ rfl _ rfl (by first | rfl | assumption) (by first | rfl | assumption) (by first | rfl | assumption) (by first | rfl | assumption) (by first | rfl | assumption) (by first | rfl | assumption) ?_; intro w' hS; simp only [List.set] at hS; replace S := hid hS; clear hS) | (refine wpList_putW (by rfl) _ _ rfl rfl S.out _ rfl 3 _ rfl _ rfl (by first | rfl | assumption) (by first | rfl | assumption) (by first | rfl | assumption) (by first | rfl | assumption) (by first | rfl | assumption) (by first | rfl | assumption) ?_; intro w' hS; simp only [List.set] at hS; replace S := hid hS; clear hS) | (refine wpList_putW (by rfl) _ _ rfl rfl S.out _ rfl 4 _ rfl _ rfl (by first | rfl | assumption) (by first | rfl | assumption) (by first | rfl | assumption) (by first | rfl | assumption) (by first | rfl | assumption) (by first | rfl | assumption) ?_; intro w' hS; simp only [List.set] at hS; replace S := hid hS; clear hS)) | (first | (refine wpList_put_pk (by rfl) _ _ _ rfl rfl S.out _ _ rfl 0 _ rfl _ rfl _ rfl (by rfl) (by first | rfl | assumption) (by first | rfl | assumption) ?_; intro w' hS; simp only [List.set] at hS; replace S := hid hS; clear hS) | (refine wpList_put_pk (by rfl) _ _ _ rfl rfl S.out _ _ rfl 1 _ rfl _ rfl _ rfl (by rfl) (by first | rfl | assumption) (by first | rfl | assumption) ?_; intro w' hS; simp only [List.set] at hS; replace S := hid hS; clear hS) | (refine wpList_put_pk (by rfl) _ _ _ rfl rfl S.out _ _ rfl 2 _ rfl _ rfl _ rfl (by rfl) (by first | rfl | assumption) (by first | rfl | assumption) ?_; intro w' hS; simp only [List.set] at hS; replace S := hid hS; clear hS) | (refine wpList_put_pk (by rfl) _ _ _ rfl rfl S.out _ _ rfl 3 _ rfl _ rfl _ rfl (by rfl) (by first | rfl | assumption) (by first | rfl | assumption) ?_; intro w' hS; simp only [List.set] at hS; replace S := hid hS; clear hS) | (refine wpList_put_pk (by rfl) _ _ _ rfl rfl S.out _ _ rfl 4 _ rfl _ rfl _ rfl (by rfl) (by first | rfl | assumption) (by first | rfl | assumption) ?_; intro w' hS; simp only [List.set] at hS; replace S := hid hS; clear hS) | (refine wpList_put_pk (by rfl) _ _ _ rfl rfl S.out _ _ rfl 5 _ rfl _ rfl _ rfl (by rfl) (by first | rfl | assumption) (by first | rfl | assumption) ?_; intro w' hS; simp only [List.set] at hS; replace S := hid hS; clear hS)))
       | ((with_reducible show wpList _ _ _ (⟨_, .load _ _, _, _, _, _⟩ :: _) _ _); first | (refine wpList_getW (by rfl) _ rfl S.out _ rfl 0 _ rfl (by first | rfl | assumption) (by first | rfl | assumption) ?_) | (refine wpList_getW (by rfl) _ rfl S.out _ rfl 1 _ rfl (by first | rfl | assumption) (by first | rfl | assumption) ?_) | (refine wpList_getW (by rfl) _ rfl S.out _ rfl 2 _ rfl (by first | rfl | assumption) (by first | rfl | assumption) ?_) | (refine wpList_getW (by rfl) _ rfl S.out _ rfl 3 _ rfl (by first | rfl | assumption) (by first | rfl | assumption) ?_) | (refine wpList_getW (by rfl) _ rfl S.out _ rfl 4 _ rfl (by first | rfl | assumption) (by first | rfl | assumption) ?_) | (refine wpList_getW (by rfl) _ rfl S.out _ rfl 5 _ rfl (by first | rfl | assumption) (by first | rfl | assumption) ?_))
       | ((with_reducible show wpList _ _ _ (⟨_, .load _ _, _, _, _, _⟩ :: _) _ _); first | (refine wpList_get_row (by rfl) _ rfl S.out _ _ rfl 0 _ _ _ rfl (by omega) ?_) | (refine wpList_get_row (by rfl) _ rfl S.out _ _ rfl 1 _ _ _ rfl (by omega) ?_) | (refine wpList_get_row (by rfl) _ rfl S.out _ _ rfl 2 _ _ _ rfl (by omega) ?_) | (refine wpList_get_row (by rfl) _ rfl S.out _ _ rfl 3 _ _ _ rfl (by omega) ?_) | (refine wpList_get_row (by rfl) _ rfl S.out _ _ rfl 4 _ _ _ rfl (by omega) ?_))
       | ((with_reducible show wpList _ _ _ (⟨_, .store _ _ _, _, _, _, _⟩ :: _) _ _); first | (refine wpList_put_row (by rfl) _ _ rfl rfl S.out _ _ rfl _ rfl 0 _ _ _ rfl (by omega) ?_; intro w' hS; simp only [List.set] at hS; replace S := hid hS; clear hS) | (refine wpList_put_row (by rfl) _ _ rfl rfl S.out _ _ rfl _ rfl 1 _ _ _ rfl (by omega) ?_; intro w' hS; simp only [List.set] at hS; replace S := hid hS; clear hS) | (refine wpList_put_row (by rfl) _ _ rfl rfl S.out _ _ rfl _ rfl 2 _ _ _ rfl (by omega) ?_; intro w' hS; simp only [List.set] at hS; replace S := hid hS; clear hS) | (refine wpList_put_row (by rfl) _ _ rfl rfl S.out _ _ rfl _ rfl 3 _ _ _ rfl (by omega) ?_; intro w' hS; simp only [List.set] at hS; replace S := hid hS; clear hS) | (refine wpList_put_row (by rfl) _ _ rfl rfl S.out _ _ rfl _ rfl 4 _ _ _ rfl (by omega) ?_; intro w' hS; simp only [List.set] at hS; replace S := hid hS; clear hS)))
    | (go_at_call 23; refine (piece6_any _).mono ?_; rintro en w' ⟨sx, cx, rfl, hS⟩; replace hS := S.out.call hS; simp only [List.cons_append, List.nil_append] at hS; replace S := hid hS; clear hS)
    | (go_at_call 11; refine (piece_bld _ _ (by (first | exact S.out.rb 0 rfl (by assumption) | exact S.out.rb 1 rfl (by assumption) | exact S.out.rb 2 rfl (by assumption) | exact S.out.rb 3 rfl (by assumption) | exact S.out.rb 4 rfl (by assumption) | exact S.out.rb 5 rfl (by assumption) | exact S.out.rb 6 rfl (by assumption))) rfl).mono ?_; rintro en w' ⟨g, gc, rfl, hS⟩; replace hS := S.out.call hS; simp only [List.cons_append, List.nil_append] at hS; replace S := hid hS; clear hS)
    | (go_at_call 19; first
       | (refine (piece_par _ _ (by (first | exact S.out.rb 0 rfl (by assumption) | exact S.out.rb 1 rfl (by assumption) | exact S.out.rb 2 rfl (by assumption) | exact S.out.rb 3 rfl (by assumption) | exact S.out.rb 4 rfl (by assumption) | exact S.out.rb 5 rfl (by assumption) | exact S.out.rb 6 rfl (by assumption)))).mono ?_; rintro en w' ⟨sy, cy, rfl, hS⟩; replace hS := S.out.call hS; simp only [List.cons_append, List.nil_append] at hS; replace S := hid hS; clear hS)
       | (refine (piece_par1 _ _ (by (first | exact S.out.rb 0 rfl (by assumption) | exact S.out.rb 1 rfl (by assumption) | exact S.out.rb 2 rfl (by assumption) | exact S.out.rb 3 rfl (by assumption) | exact S.out.rb 4 rfl (by assumption) | exact S.out.rb 5 rfl (by assumption) | exact S.out.rb 6 rfl (by assumption)))).mono ?_; rintro en w' ⟨rfl, hb⟩; replace S := hid (S.out.keep hb); clear hb))
    | (go_at_call 21; refine (piece_same _ _ _ (by (first | exact S.out.rb 0 rfl (by assumption) | exact S.out.rb 1 rfl (by assumption) | exact S.out.rb 2 rfl (by assumption) | exact S.out.rb 3 rfl (by assumption) | exact S.out.rb 4 rfl (by assumption) | exact S.out.rb 5 rfl (by assumption) | exact S.out.rb 6 rfl (by assumption))) (by (first | exact S.out.rb 0 rfl (by assumption) | exact S.out.rb 1 rfl (by assumption) | exact S.out.rb 2 rfl (by assumption) | exact S.out.rb 3 rfl (by assumption) | exact S.out.rb 4 rfl (by assumption) | exact S.out.rb 5 rfl (by assumption) | exact S.out.rb 6 rfl (by assumption))) rfl rfl).mono ?_; rintro en w' ⟨rfl, hb⟩; replace S := hid (S.out.keep hb); clear hb)
    | (go_at_call 15; refine (piece_rgt _ _ (by (first | exact S.out.rb 0 rfl (by assumption) | exact S.out.rb 1 rfl (by assumption) | exact S.out.rb 2 rfl (by assumption) | exact S.out.rb 3 rfl (by assumption) | exact S.out.rb 4 rfl (by assumption) | exact S.out.rb 5 rfl (by assumption) | exact S.out.rb 6 rfl (by assumption))) rfl).mono ?_; rintro en w' ⟨rfl, hb⟩; replace S := hid (S.out.keep hb); clear hb)
    | (go_at_call 17; refine (piece_hd _ _ (by (first | exact S.out.rb 0 rfl (by assumption) | exact S.out.rb 1 rfl (by assumption) | exact S.out.rb 2 rfl (by assumption) | exact S.out.rb 3 rfl (by assumption) | exact S.out.rb 4 rfl (by assumption) | exact S.out.rb 5 rfl (by assumption) | exact S.out.rb 6 rfl (by assumption))) rfl).mono ?_; rintro en w' ⟨rfl, hb⟩; replace S := hid (S.out.keep hb); clear hb))
  go_ret
  exact P.out _ _ rfl S.out.nil
end Go.Proofs.Ythbdnmmmibdgpaa
