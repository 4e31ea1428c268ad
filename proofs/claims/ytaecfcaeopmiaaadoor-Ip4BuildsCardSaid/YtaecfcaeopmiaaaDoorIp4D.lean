/-
  ip4.read.
-/
import Derived.Test.YtaecfcaeopmiaaaDoorIp4B
import Derived.Test.YtaecfcaeopmiaaaDoorSpR
import Derived.Test.YtaecfcaeopmiaaaDoorCopy
import Derived.Test.YtaecfcaeopmiaaaDoorTree
import Derived.Test.YtaecfcaeopmiaaaDoorGetB
namespace Go.Proofs.YtaecfcaeopmiaaaDoor
open Go.RowKit

def Read4Post (l : List Int) (hd : Nat) (w : World) (en : Ending) (w' : World) : Prop :=
  ∃ so co sx cx, en = .returned (.tuple #[.agg (pkC (p4K l (.slice so (hd - 20) co) (.slice sx (l.length - hd) cx))), .int .u16 (wordL l 6)]) ∧
    Sp w w' [.row (.slice sx (l.length - hd) cx) 5 1 (l.length - hd) (bts (l.drop hd)), .row (.slice so (hd - 20) co) 5 1 (hd - 20) (bts ((l.drop 20).take (hd - 20)))]
theorem zB_drop : zB.drop 4 = List.replicate 12 0 := rfl
set_option maxHeartbeats 1000000 in
set_option maxRecDepth 20000 in
theorem read4_any (bv : Value) (l : List Int) (hd : Nat) (w : World) (h : Rb w bv l) (h20 : 20 ≤ hd) (hh : hd ≤ l.length) (hl : l.length ≤ 65535) : Calls Tryd.prog 32 #[bv, .int .i64 hd] w (Read4Post l hd w) := by
  have HB := hid h
  have YB := h.byt
  obtain ⟨ad, cd, rfl, hcd, hmd, _⟩ := h.open
  unfold maxLen at hmd
  have g1 := YB.bd 1; have g8 := YB.bd 8; have g9 := YB.bd 9
  have w4 := wordL_bd YB 4
  have w6 := wordL_bd YB 6
  have c1 : IntKind.i64.wrap (gt l 1) = gt l 1 := IntWalk.i64_in _ (by omega)
  have c8 : IntKind.i64.wrap (gt l 8) = gt l 8 := IntWalk.i64_in _ (by omega)
  have c9 : IntKind.i64.wrap (gt l 9) = gt l 9 := IntWalk.i64_in _ (by omega)
  have c4 : IntKind.u32.wrap (wordL l 4) = wordL l 4 := IntWalk.u32_in _ (by omega)
  have a1 := u16_and14 w6.1 w6.2
  have a2 := u16_and13 w6.1 w6.2
  have a3 : (wordL l 6 / 16384 % 2 * 16384 != 0) = decide (wordL l 6 / 16384 % 2 = 1) := bit_ne (by decide)
  have a4 : (wordL l 6 / 8192 % 2 * 8192 != 0) = decide (wordL l 6 / 8192 % 2 = 1) := bit_ne (by decide)
  have c6 : IntKind.i64.wrap (wordL l 6 % 8192) = wordL l 6 % 8192 := IntWalk.i64_in _ (by omega)
  have c7 : IntKind.i64.wrap (wordL l 6 % 8192 * 8) = wordL l 6 % 8192 * 8 := IntWalk.i64_in _ (by omega)
  have c20 : IntKind.i64.wrap ((hd : Int) - 20) = ((hd - 20 : Nat) : Int) := by rw [IntWalk.i64_in _ (by omega)]; omega
  have S : Hid (Sp w (w.alloc (.cells #[.int .i64 0, .int .i64 0, .int .i64 0, .int .i64 0, .int .u8 0, .int .u8 0, .int .u8 0, .int .u8 0, .int .u8 0, .int .u8 0, .int .u8 0, .int .u8 0, .int .u8 0, .int .u8 0, .int .u8 0, .int .u8 0, .int .u8 0, .int .u8 0, .int .u8 0, .int .u8 0, .int .i64 0, .int .u8 0, .int .u8 0, .int .u8 0, .int .u8 0, .int .u8 0, .int .u8 0, .int .u8 0, .int .u8 0, .int .u8 0, .int .u8 0, .int .u8 0, .int .u8 0, .int .u8 0, .int .u8 0, .int .u8 0, .int .u8 0, .int .i64 0, .int .i64 0, .int .u32 0, .bool false, .bool false, .bool false, .int .i64 0, .slice none 0 0, .slice none 0 0] 30)) [.blk w.heap.size (pkC pk0) 30]) := hid (Sp.in1 ..)
  have l12 : ((l.drop 12).take 4).length = 4 := by simp; omega
  have l16 : ((l.drop 16).take 4).length = 4 := by simp; omega
  have L3 : ((l.drop 12).take 4 ++ List.replicate 12 (0 : Int)).length = 16 := by simp; omega
  have L4 : ((l.drop 16).take 4 ++ List.replicate 12 (0 : Int)).length = 16 := by simp; omega
  have P := hid (fun w' (q : Pk) so co sx cx (hq : q = p4K l (.slice so (hd - 20) co) (.slice sx (l.length - hd) cx)) (hS : Sp w w' [.row (.slice sx (l.length - hd) cx) 5 1 (l.length - hd) (bts (l.drop hd)), .row (.slice so (hd - 20) co) 5 1 (hd - 20) (bts ((l.drop 20).take (hd - 20)))]) =>
    (show Read4Post l hd w (.returned (.tuple #[.agg (pkC q), .int .u16 (wordL l 6)])) w' from ⟨so, co, sx, cx, by rw [hq], hS⟩))
  clear h
  go_enter Tryd.func32, Tryd.ntmps32
  go_upto_region 1 with fail
  generalize w.alloc (.cells #[.int .i64 0, .int .i64 0, .int .i64 0, .int .i64 0, .int .u8 0, .int .u8 0, .int .u8 0, .int .u8 0, .int .u8 0, .int .u8 0, .int .u8 0, .int .u8 0, .int .u8 0, .int .u8 0, .int .u8 0, .int .u8 0, .int .u8 0, .int .u8 0, .int .u8 0, .int .u8 0, .int .i64 0, .int .u8 0, .int .u8 0, .int .u8 0, .int .u8 0, .int .u8 0, .int .u8 0, .int .u8 0, .int .u8 0, .int .u8 0, .int .u8 0, .int .u8 0, .int .u8 0, .int .u8 0, .int .u8 0, .int .u8 0, .int .u8 0, .int .i64 0, .int .i64 0, .int .u32 0, .bool false, .bool false, .bool false, .int .i64 0, .slice none 0 0, .slice none 0 0] 30) = w' at *
  generalize w.heap.size = b0 at *
  go_wp2_with (first
    | go_skip
    | (((with_reducible show wpList _ _ _ (_ :: _) _ (World.alloc _ (.cells _ 30))); refine wpList_world fun w' hw2 => ?_; replace S := hid (show Sp _ _ (.blk _ (pkC pk0) 30 :: _) from S.out.alloc hw2); clear hw2))
    | ((with_reducible show Code.wp _ (Code.region 12 _ true) _ _ _)
       refine wp_region_canon ((0, false) :: (1, false) :: (2, false) :: (3, false) :: (4, true) :: (5, true) :: []) (fun W => Sp w W []) (by kernel_rfl) (by kernel_rfl) (fun c a d v w h => by cases d <;> exact h) ?_ ?_
       · exact S.out.nil.same (Same.drew _)
       simp only [pick, List.getElem?_cons_succ, List.getElem?_cons_zero]
       replace S := hid (S.out.same (Same.drew w'))
       generalize w'.drew = w' at *
       repeat (first
         | ((with_reducible show wpD _ _ _ _ _ _ _); (first | (refine wpD_weak (by rfl) ?_; apply Exists.intro; refine ⟨fun wS hS => ?_, ?_⟩; (focus (go_simp; (try with_reducible rfl); done)); simp only [Act.put, List.setIfInBounds_toArray, List.set_cons_zero, List.set_cons_succ]) | (refine wpD_pass (by rfl) ?_; simp only [Act.put, List.setIfInBounds_toArray, List.set_cons_zero, List.set_cons_succ])))
         | ((with_reducible show wpD _ _ _ _ _ _ _); refine wpD_strongL (by rfl) ?_)
         | ((with_reducible show wpList _ _ _ _ _ _); go_wp2_with (first
             | go_skip
             | ((with_reducible show wpList _ _ _ _ _ _); (with_reducible show wpList _ _ _ (⟨_, .call ⟨.builtin .copy, _, _⟩, _, _, _, _⟩ :: _) _ _); (refine wpList_copy_src (by rfl) _ _ rfl S.out _ rfl 1 _ rfl _ rfl _ (S.out.rb 0 rfl ((YB.drop 12).take 4)) (by rw [l12]; decide) (by first | rfl | assumption) (by first | rfl | assumption) ?_); intro w' hS; simp only [List.set] at hS; rw [l12, zB_drop] at hS; replace S := hid (hS.sub (List.sublist_cons_self _ _)); clear hS)
             | (go_at_call 57; refine (rbP _ _ rb l 12 4 _ _ (by first | exact S.out.rdP 0 rfl | exact S.out.rdP 1 rfl | exact S.out.rdP 2 rfl | exact S.out.rdP 3 rfl) rfl (by omega)).mono ?_; rintro en w' ⟨v, rfl, hO, hR, hF⟩; have hS := S.out.gotB 1 rfl hR hF hO; simp only [List.set_cons_zero, List.set_cons_succ, Nat.reduceAdd] at hS; replace S := hid hS; clear hS hR hF hO)))
         | ((with_reducible show qEnd _ _ _ _ _); refine qEnd_done S.out.nil ?_; (try simp only [Act.put, List.setIfInBounds_toArray, List.set_cons_zero, List.set_cons_succ]))
         | ((with_reducible show wpD _ _ _ _ _ _ _); refine wpD_nil ?_)))
    | ((with_reducible show Code.wp _ (Code.region 13 _ true) _ _ _)
       refine wp_region_canon ((0, false) :: (1, false) :: (2, false) :: (3, false) :: (4, true) :: (5, true) :: []) (fun W => Sp w W []) (by kernel_rfl) (by kernel_rfl) (fun c a d v w h => by cases d <;> exact h) ?_ ?_
       · exact S.out.nil.same (Same.drew _)
       simp only [pick, List.getElem?_cons_succ, List.getElem?_cons_zero]
       replace S := hid (S.out.same (Same.drew w'))
       generalize w'.drew = w' at *
       repeat (first
         | ((with_reducible show wpD _ _ _ _ _ _ _); (first | (refine wpD_weak (by rfl) ?_; apply Exists.intro; refine ⟨fun wS hS => ?_, ?_⟩; (focus (go_simp; (try with_reducible rfl); done)); simp only [Act.put, List.setIfInBounds_toArray, List.set_cons_zero, List.set_cons_succ]) | (refine wpD_pass (by rfl) ?_; simp only [Act.put, List.setIfInBounds_toArray, List.set_cons_zero, List.set_cons_succ])))
         | ((with_reducible show wpD _ _ _ _ _ _ _); refine wpD_strongL (by rfl) ?_)
         | ((with_reducible show wpList _ _ _ _ _ _); go_wp2_with (first
             | go_skip
             | ((with_reducible show wpList _ _ _ _ _ _); (with_reducible show wpList _ _ _ (⟨_, .call ⟨.builtin .copy, _, _⟩, _, _, _, _⟩ :: _) _ _); refine wpList_copy_dst (by rfl) _ _ rfl S.out _ rfl 1 _ rfl _ rfl _ (S.out.rb 0 rfl ((YB.drop 16).take 4)) (by rw [l16]; decide) (by first | rfl | assumption) (by first | rfl | assumption) ?_; intro w' hS; simp only [List.set] at hS; rw [l16, zB_drop] at hS; replace S := hid (hS.sub (List.sublist_cons_self _ _)); clear hS)
             | (go_at_call 57; refine (rbP _ _ rb l 16 4 _ _ (by first | exact S.out.rdP 0 rfl | exact S.out.rdP 1 rfl | exact S.out.rdP 2 rfl | exact S.out.rdP 3 rfl) rfl (by omega)).mono ?_; rintro en w' ⟨v, rfl, hO, hR, hF⟩; have hS := S.out.gotB 1 rfl hR hF hO; simp only [List.set_cons_zero, List.set_cons_succ, Nat.reduceAdd] at hS; replace S := hid hS; clear hS hR hF hO)))
         | ((with_reducible show qEnd _ _ _ _ _); refine qEnd_done S.out.nil ?_; (try simp only [Act.put, List.setIfInBounds_toArray, List.set_cons_zero, List.set_cons_succ]))
         | ((with_reducible show wpD _ _ _ _ _ _ _); refine wpD_nil ?_)))
    | ((with_reducible show wpList _ _ _ _ _ _)
       first
       | (((with_reducible show wpList _ _ _ (⟨_, .load 30 _, _, _, _, _⟩ :: _) _ _); first | (refine wpList_getW (by rfl) _ rfl S.out _ rfl 0 _ rfl (by first | rfl | assumption) (by first | rfl | assumption) ?_) | (refine wpList_getW (by rfl) _ rfl S.out _ rfl 1 _ rfl (by first | rfl | assumption) (by first | rfl | assumption) ?_) | (refine wpList_getW (by rfl) _ rfl S.out _ rfl 2 _ rfl (by first | rfl | assumption) (by first | rfl | assumption) ?_) | (refine wpList_getW (by rfl) _ rfl S.out _ rfl 3 _ rfl (by first | rfl | assumption) (by first | rfl | assumption) ?_) | (refine wpList_getW (by rfl) _ rfl S.out _ rfl 4 _ rfl (by first | rfl | assumption) (by first | rfl | assumption) ?_) | (refine wpList_getW (by rfl) _ rfl S.out _ rfl 5 _ rfl (by first | rfl | assumption) (by first | rfl | assumption) ?_)))
       | ((with_reducible show wpList _ _ _ (⟨_, .store _ _ _, _, _, _, _⟩ :: _) _ _); first
          | (refine wpList_put_src (by rfl) _ _ rfl rfl S.out _ rfl 0 _ rfl 4 zB rfl rfl (by first | rfl | assumption) (by first | rfl | assumption) ?_; intro w' hS; simp only [List.set] at hS; replace S := hid hS; clear hS)
          | (refine wpList_put_dst (by rfl) _ _ rfl rfl S.out _ rfl 0 _ rfl 4 zB rfl rfl (by first | rfl | assumption) (by first | rfl | assumption) ?_; intro w' hS; simp only [List.set] at hS; replace S := hid hS; clear hS)
          | (first | (refine wpList_put_pk (by rfl) _ _ _ rfl rfl S.out _ _ rfl 0 _ rfl _ rfl _ rfl (by rfl) (by first | rfl | assumption) (by first | rfl | assumption) ?_; intro w' hS; simp only [List.set] at hS; replace S := hid hS; clear hS) | (refine wpList_put_pk (by rfl) _ _ _ rfl rfl S.out _ _ rfl 1 _ rfl _ rfl _ rfl (by rfl) (by first | rfl | assumption) (by first | rfl | assumption) ?_; intro w' hS; simp only [List.set] at hS; replace S := hid hS; clear hS) | (refine wpList_put_pk (by rfl) _ _ _ rfl rfl S.out _ _ rfl 2 _ rfl _ rfl _ rfl (by rfl) (by first | rfl | assumption) (by first | rfl | assumption) ?_; intro w' hS; simp only [List.set] at hS; replace S := hid hS; clear hS) | (refine wpList_put_pk (by rfl) _ _ _ rfl rfl S.out _ _ rfl 3 _ rfl _ rfl _ rfl (by rfl) (by first | rfl | assumption) (by first | rfl | assumption) ?_; intro w' hS; simp only [List.set] at hS; replace S := hid hS; clear hS) | (refine wpList_put_pk (by rfl) _ _ _ rfl rfl S.out _ _ rfl 4 _ rfl _ rfl _ rfl (by rfl) (by first | rfl | assumption) (by first | rfl | assumption) ?_; intro w' hS; simp only [List.set] at hS; replace S := hid hS; clear hS) | (refine wpList_put_pk (by rfl) _ _ _ rfl rfl S.out _ _ rfl 5 _ rfl _ rfl _ rfl (by rfl) (by first | rfl | assumption) (by first | rfl | assumption) ?_; intro w' hS; simp only [List.set] at hS; replace S := hid hS; clear hS))
          | (refine wpList_putW (by rfl) _ _ rfl rfl S.out _ rfl 0 _ rfl { pk0 with V := 4 } rfl (by first | rfl | assumption) (by first | rfl | assumption) (by first | rfl | assumption) (by first | rfl | assumption) rfl rfl ?_; intro w' hS; simp only [List.set] at hS; replace S := hid hS; clear hS)
          | (first | (refine wpList_putW (by rfl) _ _ rfl rfl S.out _ rfl 0 _ rfl _ rfl (by first | rfl | assumption) (by first | rfl | assumption) (by first | rfl | assumption) (by first | rfl | assumption) (by first | rfl | assumption) (by first | rfl | assumption) ?_; intro w' hS; simp only [List.set] at hS; replace S := hid hS; clear hS) | (refine wpList_putW (by rfl) _ _ rfl rfl S.out _ rfl 1 _ rfl _ rfl (by first | rfl | assumption) (by first | rfl | assumption) (by first | rfl | assumption) (by first | rfl | assumption) (by first | rfl | assumption) (by first | rfl | assumption) ?_; intro w' hS; simp only [List.set] at hS; replace S := hid hS; clear hS) | (refine wpList_putW (by rfl) _ _ rfl rfl S.out _ rfl 2 _ rfl _ rfl (by first | rfl | assumption) (by first | rfl | assumption) (by first | rfl | assumption) (by first | rfl | assumption) (by first | rfl | assumption) (by first | rfl | assumption) ?_; intro w' hS; simp only [List.set] at hS; replace S := hid hS; clear hS) | (refine wpList_putW (by rfl) _ _ rfl rfl S.out _ rfl 3 _ rfl _ rfl (by first | rfl | assumption) (by first | rfl | assumption) (by first | rfl | assumption) (by first | rfl | assumption) (by first | rfl | assumption) (by first | rfl | assumption) ?_; intro w' hS; simp only [List.set] at hS; replace S := hid hS; clear hS) | (refine wpList_putW (by rfl) _ _ rfl rfl S.out _ rfl 4 _ rfl _ rfl (by first | rfl | assumption) (by first | rfl | assumption) (by first | rfl | assumption) (by first | rfl | assumption) (by first | rfl | assumption) (by first | rfl | assumption) ?_; intro w' hS; simp only [List.set] at hS; replace S := hid hS; clear hS))))
    | (go_at_call 54; refine (rnewP _ l _ (HB.out.below S.out.bel) (by omega)).mono ?_; rintro en w' ⟨rb, rfl, hR, hb⟩; replace S := hid (S.out.newR hR hb); clear hR hb)
    | (go_at_call 58; refine (rleftP _ _ rb l _ _ (by first | exact S.out.rdP 0 rfl | exact S.out.rdP 1 rfl | exact S.out.rdP 2 rfl | exact S.out.rdP 3 rfl)).mono ?_; rintro en w'' ⟨rfl, rfl⟩)
    | (go_at_call 57; first
       | ((have M3 := M2); refine (rbP _ _ rb l hd (l.length - hd) _ _ (by first | exact S.out.rdP 0 rfl | exact S.out.rdP 1 rfl | exact S.out.rdP 2 rfl | exact S.out.rdP 3 rfl) rfl (by omega)).mono ?_; rintro en w' ⟨v, rfl, hO, hR, hF⟩; obtain ⟨sx, cx, rfl, hS⟩ := S.out.gotS 2 rfl hR hF hO (l.length - hd) (by simp); simp only [List.set_cons_zero, List.set_cons_succ] at hS; replace S := hid hS; clear hS hR hF hO)
       | (refine (rbP _ _ rb l 20 (hd - 20) _ _ (by first | exact S.out.rdP 0 rfl | exact S.out.rdP 1 rfl | exact S.out.rdP 2 rfl | exact S.out.rdP 3 rfl) rfl (by omega)).mono ?_; have M2 := True.intro; rintro en w' ⟨v, rfl, hO, hR, hF⟩; obtain ⟨so, co, rfl, hS⟩ := S.out.gotS 1 rfl hR hF hO (hd - 20) (by simp; omega); rw [show 20 + (hd - 20) = hd by omega] at hS; simp only [List.set_cons_zero, List.set_cons_succ] at hS; replace S := hid hS; clear hS hR hF hO))
    | (go_at_call 56; refine (r16P _ _ rb l _ _ (by first | exact S.out.rdP 0 rfl | exact S.out.rdP 1 rfl | exact S.out.rdP 2 rfl | exact S.out.rdP 3 rfl) (by omega)).mono ?_; rintro en w' ⟨rfl, hR, hF, _⟩; (first | (have hS := S.out.got 0 rfl hR hF) | (have hS := S.out.got 1 rfl hR hF) | (have hS := S.out.got 2 rfl hR hF) | (have hS := S.out.got 3 rfl hR hF)); simp only [List.set_cons_zero, List.set_cons_succ, Nat.reduceAdd] at hS; replace S := hid hS; clear hS hR hF)
    | (go_at_call 55; refine (r8P _ _ rb l _ _ (by first | exact S.out.rdP 0 rfl | exact S.out.rdP 1 rfl | exact S.out.rdP 2 rfl | exact S.out.rdP 3 rfl) (by omega)).mono ?_; rintro en w' ⟨rfl, hR, hF, _⟩; (first | (have hS := S.out.got 0 rfl hR hF) | (have hS := S.out.got 1 rfl hR hF) | (have hS := S.out.got 2 rfl hR hF) | (have hS := S.out.got 3 rfl hR hF)); simp only [List.set_cons_zero, List.set_cons_succ, Nat.zero_add, Nat.reduceAdd] at hS; replace S := hid hS; clear hS hR hF))
  refine post_pk Tryd.results32 rfl _ _ _ rfl rfl (S.out.pk 4 rfl) L3 L4 ?_
  have hS := S.out
  rw [show (l.drop hd).take (l.length - hd) = l.drop hd from List.take_of_length_le (by simp)] at hS
  exact P.out _ _ so co sx cx rfl (hS.sub (by repeat (first | exact List.Sublist.refl _ | exact List.nil_sublist _ | apply List.Sublist.cons_cons | apply List.Sublist.cons)))
theorem u8_lo {s : Int} (_ : 0 ≤ s) (_ : s ≤ 65535) : IntKind.u8.wrap s = s % 256 := by rw [IntKind.wrap_u8]
def chk4 (m : List Int) : Bool := decide (wordL m 10 = 65535 - partL ((m.set 10 0).set 11 0))
set_option maxHeartbeats 1000000 in
set_option maxRecDepth 20000 in
theorem checked_any (bv : Value) (m : List Int) (w : World) (h : Rb w bv m) (h20 : 20 ≤ m.length) (hl : m.length ≤ 65535) : Calls Tryd.prog 31 #[bv] w (APost w (.bool (chk4 m))) := by
  have HB := hid h
  have YB := h.byt
  obtain ⟨ad, cd, rfl, hcd, hmd, hz⟩ := h.open
  unfold maxLen at hmd
  obtain ⟨bk, off, rfl, hcell⟩ := hz.resolve_left (by omega)
  have g10 := YB.bd 10; have g11 := YB.bd 11
  have yz : Byt ((m.set 10 0).set 11 0) := (YB.set 10 (by decide) (by decide)).set 11 (by decide) (by decide)
  have hs := partL_bd yz
  have RE := hid (show chk4 m = decide (256 * gt m 10 + gt m 11 = 65535 - partL ((m.set 10 0).set 11 0)) from rfl)
  have OF := hid (fun W v (hv : Rb W v ((m.set 10 0).set 11 0)) => of_any v _ W hv (by simp; omega))
  have hs2 : 0 ≤ 65535 - partL ((m.set 10 0).set 11 0) ∧ 65535 - partL ((m.set 10 0).set 11 0) ≤ 65535 := by omega
  generalize chk4 m = r at *
  generalize 65535 - partL ((m.set 10 0).set 11 0) = s at *
  have y1 : IntKind.u8.wrap (s / 256) = s / 256 := IntWalk.u8_in _ (by omega)
  have y2 := u8_lo hs2.1 hs2.2
  have S : Hid (Sp w w []) := hid (Sp.refl w)
  clear h hcell hz hs
  have w' := w
  go_enter Tryd.func31, Tryd.ntmps31
  go_wp2_with (first
    | go_skip
    | ((with_reducible show wpList _ _ _ _ _ _)
       first
       | ((with_reducible show wpList _ _ _ (⟨_, .binOp _ _ _ _ _, _, _, _, _⟩ :: _) _ _); refine wpList_cmp (by rfl) _ (by rfl) _ _ _ _ rfl _ (by go_simp; exact rfl) ?_ ?_ <;> (intro hc; (try simp only [decide_eq_true_eq, decide_eq_false_iff_not, Int.not_lt] at hc)))
       | (((with_reducible show wpList _ _ _ (⟨_, .store _ _ _, _, _, _, _⟩ :: _) _ _); first | (refine wpList_put_row (by rfl) _ _ rfl rfl S.out _ _ rfl _ rfl 0 _ _ _ rfl (by omega) ?_; intro w' hS; simp only [List.set] at hS; replace S := hid hS; clear hS) | (refine wpList_put_row (by rfl) _ _ rfl rfl S.out _ _ rfl _ rfl 1 _ _ _ rfl (by omega) ?_; intro w' hS; simp only [List.set] at hS; replace S := hid hS; clear hS) | (refine wpList_put_row (by rfl) _ _ rfl rfl S.out _ _ rfl _ rfl 2 _ _ _ rfl (by omega) ?_; intro w' hS; simp only [List.set] at hS; replace S := hid hS; clear hS) | (refine wpList_put_row (by rfl) _ _ rfl rfl S.out _ _ rfl _ rfl 3 _ _ _ rfl (by omega) ?_; intro w' hS; simp only [List.set] at hS; replace S := hid hS; clear hS) | (refine wpList_put_row (by rfl) _ _ rfl rfl S.out _ _ rfl _ rfl 4 _ _ _ rfl (by omega) ?_; intro w' hS; simp only [List.set] at hS; replace S := hid hS; clear hS)))
       | (have HR := hid (HB.out.below S.out.bel); (with_reducible show wpList _ _ _ (⟨_, .load _ _, _, _, _, _⟩ :: _) _ _); first | (refine wpList_get_rb (by rfl) _ rfl HR.out 10 _ rfl rfl (by omega) ?_) | (refine wpList_get_rb (by rfl) _ rfl HR.out 11 _ rfl rfl (by omega) ?_)))
    | (go_at_call 53; refine (clone_any _ m _ (HB.out.below S.out.bel) (by omega)).mono ?_; rintro en w' ⟨v, rfl, ho, hb⟩; have hS := Sp.ofOwn ho hb; obtain ⟨gg, cc, rfl⟩ := hS.rowopen 0 rfl (by omega); replace hS := S.out.call hS; simp only [List.cons_append, List.nil_append] at hS; replace S := hid hS; clear hS)
    | (go_at_call 49; refine (OF.out _ _ (S.out.rb 0 rfl yz)).mono ?_; rintro en w' ⟨rfl, hd⟩; replace S := hid (S.out.keep (hd.below _)); clear hd))
  all_goals
    go_ret
    refine ⟨?_, S.out.bel⟩
    show Ending.returned (.bool _) = _
    rw [RE.out]
    simp only [beq_iff_eq, beq_eq_false_iff_ne, ne_eq] at *
    congr 2
    first
    | exact (decide_eq_true (by omega)).symm
    | exact (decide_eq_false (by omega)).symm
def P4Post (l : List Int) (w : World) (en : Ending) (w' : World) : Prop :=
  (p4E l ≠ 0 → en = .returned (.tuple #[.agg (pkC pk0), .int .i64 (p4E l)]) ∧ Below w.heap.size w w') ∧
  (p4E l = 0 → ∃ so co sx cx, en = .returned (.tuple #[.agg (pkC (p4K l (.slice so (head4 l - 20) co) (.slice sx (l.length - head4 l) cx))), .int .i64 0]) ∧
    Sp w w' [.row (.slice sx (l.length - head4 l) cx) 5 1 (l.length - head4 l) (bts (x4L l)), .row (.slice so (head4 l - 20) co) 5 1 (head4 l - 20) (bts (o4L l))])
theorem P4Post.err {l : List Int} {w w' : World} {k : Int} (he : p4E l = k) (hk : k ≠ 0) {L : List Res} (S : Sp w w' L) : P4Post l w (.returned (.tuple #[.agg (pkC pk0), .int .i64 k])) w' := by
  subst he
  exact ⟨fun _ => ⟨rfl, S.bel⟩, fun h => absurd h hk⟩
theorem chk4_head {l : List Int} (h : 20 ≤ head4 l) : chk4 (l.take (head4 l)) = decide (wordL l 10 = 65535 - partL (zeroed4 l)) := by
  unfold chk4 zeroed4 wordL
  rw [gt_take' (by omega), gt_take' (by omega)]
theorem placed4_ov {l : List Int} {o x : Value} {n : Nat} : placed4 (p4K l o x) n = placed4 (p4K l (.slice none 0 0) (.slice none 0 0)) n := rfl
set_option maxHeartbeats 1600000 in
set_option maxRecDepth 20000 in
theorem parse4_any (bv : Value) (l : List Int) (w : World) (h : Rb w bv l) (hT : Tab w) (hl : l.length ≤ 140737488355328) : Calls Tryd.prog 13 #[bv] w (P4Post l w) := by
  have HB := hid h
  have TB := hid hT
  have YB := h.byt
  obtain ⟨ad, cd, rfl, hcd, hmd, hz⟩ := h.open
  unfold maxLen at hmd
  have S : Hid (Sp w (w.alloc (.cells #[.int .i64 0, .int .i64 0, .int .i64 0, .int .i64 0, .int .u8 0, .int .u8 0, .int .u8 0, .int .u8 0, .int .u8 0, .int .u8 0, .int .u8 0, .int .u8 0, .int .u8 0, .int .u8 0, .int .u8 0, .int .u8 0, .int .u8 0, .int .u8 0, .int .u8 0, .int .u8 0, .int .i64 0, .int .u8 0, .int .u8 0, .int .u8 0, .int .u8 0, .int .u8 0, .int .u8 0, .int .u8 0, .int .u8 0, .int .u8 0, .int .u8 0, .int .u8 0, .int .u8 0, .int .u8 0, .int .u8 0, .int .u8 0, .int .u8 0, .int .i64 0, .int .i64 0, .int .u32 0, .bool false, .bool false, .bool false, .int .i64 0, .slice none 0 0, .slice none 0 0] 30)) [.blk w.heap.size (pkC pk0) 30]) := hid (Sp.in1 ..)
  by_cases h20 : l.length < 20
  · have he : p4E l = 20 := by unfold p4E; rw [if_pos h20]
    replace he := hid he
    have hd : decide ((l.length : Int) < 20) = true := by simp; omega
    clear h hT h20 hz
    go_enter Tryd.func13, Tryd.ntmps13
    go_upto_region 1 with fail
    generalize w.alloc (.cells #[.int .i64 0, .int .i64 0, .int .i64 0, .int .i64 0, .int .u8 0, .int .u8 0, .int .u8 0, .int .u8 0, .int .u8 0, .int .u8 0, .int .u8 0, .int .u8 0, .int .u8 0, .int .u8 0, .int .u8 0, .int .u8 0, .int .u8 0, .int .u8 0, .int .u8 0, .int .u8 0, .int .i64 0, .int .u8 0, .int .u8 0, .int .u8 0, .int .u8 0, .int .u8 0, .int .u8 0, .int .u8 0, .int .u8 0, .int .u8 0, .int .u8 0, .int .u8 0, .int .u8 0, .int .u8 0, .int .u8 0, .int .u8 0, .int .u8 0, .int .i64 0, .int .i64 0, .int .u32 0, .bool false, .bool false, .bool false, .int .i64 0, .slice none 0 0, .slice none 0 0] 30) = w' at *
    go_wp2_with (first
      | go_skip
      | ((with_reducible show wpList _ _ _ _ _ _); (with_reducible show wpList _ _ _ (⟨_, .store _ _ _, _, _, _, _⟩ :: _) _ _); first | (refine wpList_putW (by rfl) _ _ rfl rfl S.out _ rfl 0 _ rfl pk0 rfl (by first | rfl | assumption) (by first | rfl | assumption) (by first | rfl | assumption) (by first | rfl | assumption) rfl rfl ?_; intro w' hS; simp only [List.set] at hS; replace S := hid hS; clear hS) | (refine wpList_putW (by rfl) _ _ rfl rfl S.out _ rfl 1 _ rfl pk0 rfl (by first | rfl | assumption) (by first | rfl | assumption) (by first | rfl | assumption) (by first | rfl | assumption) rfl rfl ?_; intro w' hS; simp only [List.set] at hS; replace S := hid hS; clear hS) | (refine wpList_putW (by rfl) _ _ rfl rfl S.out _ rfl 2 _ rfl pk0 rfl (by first | rfl | assumption) (by first | rfl | assumption) (by first | rfl | assumption) (by first | rfl | assumption) rfl rfl ?_; intro w' hS; simp only [List.set] at hS; replace S := hid hS; clear hS) | (refine wpList_putW (by rfl) _ _ rfl rfl S.out _ rfl 3 _ rfl pk0 rfl (by first | rfl | assumption) (by first | rfl | assumption) (by first | rfl | assumption) (by first | rfl | assumption) rfl rfl ?_; intro w' hS; simp only [List.set] at hS; replace S := hid hS; clear hS)))
    exact post_pk Tryd.results13 rfl _ pk0 _ rfl rfl (S.out.pk 0 rfl) rfl rfl (P4Post.err he.out (by decide) S.out)
  obtain ⟨bk, off, rfl, hcell⟩ := hz.resolve_left (by omega)
  have hhd := head4_bd YB
  have g0 := YB.bd 0; have g2 := YB.bd 2; have g3 := YB.bd 3
  have w2 := wordL_bd YB 2
  have w6 := wordL_bd YB 6
  have HW2 := hid (show wordL l 2 = 256 * gt l 2 + gt l 3 from rfl)
  have c0 : IntKind.i64.wrap (gt l 0 % 16) = gt l 0 % 16 := IntWalk.i64_in _ (by omega)
  have c1 : IntKind.i64.wrap (gt l 0 % 16 * 4) = (head4 l : Int) := by rw [hhd.2]; exact IntWalk.i64_in _ (by omega)
  have hb60 := hhd.1
  have LA := hid (fun o x => (show (p4K l o x).sB.length = 16 by simp [p4K]; omega))
  have LB := hid (fun o x => (show (p4K l o x).dB.length = 16 by simp [p4K]; omega))
  have a1 := u16_and15 w6.1 w6.2
  have QF := hid (fun W (hW : Sp w W []) => (⟨Rb.cellAt (HB.out.below hW.bel) (by omega), Rb.cellAt (HB.out.below hW.bel) (by omega)⟩ : W.cell? ⟨bk, off + 2, none⟩ = some (.int .u8 (gt l 2)) ∧ W.cell? ⟨bk, off + 3, none⟩ = some (.int .u8 (gt l 3))))
  have CK := hid (fun W v m (hv : Rb W v m) (h1 : 20 ≤ m.length) (h2 : m.length ≤ 65535) => (checked_any v m W hv h1 h2).mono fun _ _ h => h.bhid)
  have PL := hid (fun W q os xs (hP : Pin W q os xs) (h : xs.length ≤ 140737488355328) => (placed_any q os xs W hP h).mono fun _ _ h => h.bhid)
  have OV := hid (fun W v os (hv : Rb W v os) (hW : Sp w W []) => (optsValid_any v os W hv (TB.out.below hW.bel)).mono (R' := BHid W (validB os)) fun _ _ h => ⟨_, hid rfl, h.1, h.2⟩)
  have RD := hid (fun W v (hv : Rb W v l) (h1 : 20 ≤ head4 l) (h2 : head4 l ≤ l.length) (h3 : l.length ≤ 65535) => read4_any v l (head4 l) W hv h1 h2 h3)
  have hd0 : decide ((l.length : Int) < 20) = false := by simp; omega
  have IQ := hid (fun (h1 : 20 ≤ l.length) (o x : Value) (ho : o.oneCell' = true) (hx : x.oneCell' = true) => p4K_is YB h1 ho hx)
  clear h hT hcell hz hhd
  go_enter Tryd.func13, Tryd.ntmps13
  go_upto_region 1 with fail
  generalize w.alloc (.cells #[.int .i64 0, .int .i64 0, .int .i64 0, .int .i64 0, .int .u8 0, .int .u8 0, .int .u8 0, .int .u8 0, .int .u8 0, .int .u8 0, .int .u8 0, .int .u8 0, .int .u8 0, .int .u8 0, .int .u8 0, .int .u8 0, .int .u8 0, .int .u8 0, .int .u8 0, .int .u8 0, .int .i64 0, .int .u8 0, .int .u8 0, .int .u8 0, .int .u8 0, .int .u8 0, .int .u8 0, .int .u8 0, .int .u8 0, .int .u8 0, .int .u8 0, .int .u8 0, .int .u8 0, .int .u8 0, .int .u8 0, .int .u8 0, .int .u8 0, .int .i64 0, .int .i64 0, .int .u32 0, .bool false, .bool false, .bool false, .int .i64 0, .slice none 0 0, .slice none 0 0] 30) = w' at *
  go_wp2_with (first
    | go_skip
    | (((with_reducible show wpList _ _ _ (_ :: _) _ (World.alloc _ (.cells _ 30))); refine wpList_world fun w' hw2 => ?_; replace S := hid (show Sp _ _ (.blk _ (pkC pk0) 30 :: _) from S.out.alloc hw2); clear hw2))
    | ((with_reducible show Code.wp _ (Code.region 8 _ true) _ _ _)
       obtain ⟨q2, q3⟩ := QF.out _ S.out.nil
       go_quiet (fail)
       obtain ⟨w3, hw3⟩ : ∃ w3, w3 = w'.drewN nq := ⟨_, rfl⟩
       rw [← hw3]
       have w4 := w3
       have hS := S.out.same (by rw [hw3]; exact Same.drewN _ _ : Same _ w3)
       replace S := hid hS
       clear hS hw3 q2 q3)
    | ((with_reducible show wpList _ _ _ _ _ _)
       first
       | ((with_reducible show wpList _ _ _ (⟨_, .binOp _ _ _ _ _, _, _, _, _⟩ :: _) _ _); refine wpList_cmp (by rfl) _ (by rfl) _ _ _ _ rfl _ (by go_simp; exact rfl) ?_ ?_ <;> (intro hc; (try simp only [decide_eq_true_eq, decide_eq_false_iff_not, Int.not_lt] at hc)))
       | (have HR := hid (HB.out.below S.out.bel); ((with_reducible show wpList _ _ _ (⟨_, .load _ _, _, _, _, _⟩ :: _) _ _); first | (refine wpList_get_rb (by rfl) _ rfl HR.out _ _ rfl rfl (by omega) ?_) | (refine wpList_get_rb (by rfl) _ rfl HR.out 0 _ rfl (by omega) (by omega) ?_)))
       | ((with_reducible show wpList _ _ _ (⟨_, .load 30 _, _, _, _, _⟩ :: _) _ _); refine wpList_getW (by rfl) _ rfl S.out _ rfl 0 _ rfl (LA.out _ _) (LB.out _ _) ?_)
       | ((with_reducible show wpList _ _ _ (⟨_, .load _ _, _, _, _, _⟩ :: _) _ _); refine wpList_get_pk (by rfl) _ _ rfl S.out _ _ rfl 0 _ rfl _ rfl (by rfl) (LA.out _ _) (LB.out _ _) ?_)
       | ((with_reducible show wpList _ _ _ (⟨_, .store _ _ (.tmp 60), _, _, _, _⟩ :: _) _ _); refine wpList_putW (by rfl) _ _ rfl rfl S.out _ rfl 0 _ rfl _ rfl (LA.out _ _) (LB.out _ _) (by first | rfl | assumption) (by first | rfl | assumption) rfl rfl ?_; intro w' hS; simp only [List.set] at hS; replace S := hid hS; clear hS)
       | ((with_reducible show wpList _ _ _ (⟨_, .store _ _ (.tmp 78), _, _, _, _⟩ :: _) _ _); refine wpList_putW (by rfl) _ _ rfl rfl S.out _ rfl 3 _ rfl _ rfl (LA.out _ _) (LB.out _ _) (by first | rfl | assumption) (by first | rfl | assumption) rfl rfl ?_; intro w' hS; simp only [List.set] at hS; replace S := hid hS; clear hS)
       | ((with_reducible show wpList _ _ _ (⟨_, .store _ _ _, _, _, _, _⟩ :: _) _ _); first | (refine wpList_putW (by rfl) _ _ rfl rfl S.out _ rfl 0 _ rfl pk0 rfl (by first | rfl | assumption) (by first | rfl | assumption) (by first | rfl | assumption) (by first | rfl | assumption) rfl rfl ?_; intro w' hS; simp only [List.set] at hS; replace S := hid hS; clear hS) | (refine wpList_putW (by rfl) _ _ rfl rfl S.out _ rfl 1 _ rfl pk0 rfl (by first | rfl | assumption) (by first | rfl | assumption) (by first | rfl | assumption) (by first | rfl | assumption) rfl rfl ?_; intro w' hS; simp only [List.set] at hS; replace S := hid hS; clear hS) | (refine wpList_putW (by rfl) _ _ rfl rfl S.out _ rfl 2 _ rfl pk0 rfl (by first | rfl | assumption) (by first | rfl | assumption) (by first | rfl | assumption) (by first | rfl | assumption) rfl rfl ?_; intro w' hS; simp only [List.set] at hS; replace S := hid hS; clear hS) | (refine wpList_putW (by rfl) _ _ rfl rfl S.out _ rfl 3 _ rfl pk0 rfl (by first | rfl | assumption) (by first | rfl | assumption) (by first | rfl | assumption) (by first | rfl | assumption) rfl rfl ?_; intro w' hS; simp only [List.set] at hS; replace S := hid hS; clear hS))
       | ((with_reducible show wpList _ _ _ (⟨_, .slice _ _ _ _ _, _, _, _, _⟩ :: _) _ _); refine wpList_front (by rfl) _ _ rfl _ _ _ rfl _ _ rfl (head4 l) rfl (by omega) ?_))
    | (go_at_call 31; refine (CK.out _ _ (l.take (head4 l)) ((HB.out.below S.out.bel).front (head4 l) (by omega)) (by simp; omega) (by simp; omega)).mono ?_; rintro en w' ⟨c1', C1, rfl, hb⟩; replace S := hid (S.out.keep hb); clear hb; cases c1')
    | (go_at_call 32; have h65 : l.length ≤ 65535 := (by simp only [bne_eq_false_iff_eq] at *; omega); refine (RD.out _ _ (HB.out.below S.out.bel) (by omega) (by omega) h65).mono ?_; rintro en w' ⟨so, co, sx, cx, rfl, hS⟩; replace hS := S.out.call hS; simp only [List.cons_append, List.nil_append] at hS; replace S := hid hS; clear hS)
    | (go_at_call 33; refine (PL.out _ _ (o4L l) (x4L l) ⟨IQ.out (by omega) _ _ rfl rfl, S.out.rb 2 rfl ((YB.drop 20).take _), S.out.rb 1 rfl (YB.drop _)⟩ (by rw [x4L_len]; omega)).mono ?_; rintro en w' ⟨r1, R1, rfl, hb⟩; replace S := hid (S.out.keep hb); clear hb; cases r1)
    | (go_at_call 34; refine (OV.out _ _ (o4L l) (S.out.rb 2 rfl ((YB.drop 20).take _)) S.out.nil).mono ?_; rintro en w' ⟨r2, R2, rfl, hb⟩; replace S := hid (S.out.keep hb); clear hb; cases r2))
  all_goals
    have hw2 := HW2.out
    clear CK PL OV RD QF
    (try (have hck := C1.out; rw [chk4_head (by omega)] at hck; simp only [decide_eq_true_eq, decide_eq_false_iff_not] at hck))
    (try (have hpl := R1.out; rw [x4L_len, placed4_ov] at hpl))
    (try (have hvb := R2.out))
    simp only [bne_iff_ne, bne_eq_false_iff_eq, ne_eq] at *
  all_goals first
    | (have he : p4E l = 0 := by
         have h1 : validB (o4L l) = true := hvb
         unfold p4E
         repeat' split
         all_goals first
           | rfl
           | omega
           | (rename_i hx; rcases hx with hx | hx <;> first | omega | (rw [hpl] at hx; cases hx))
           | (rename_i hx; rw [h1] at hx; cases hx)
       refine post_pk Tryd.results13 rfl _ _ _ rfl rfl (S.out.pk 3 rfl) (LA.out _ _) (LB.out _ _) ?_
       exact ⟨fun h => absurd he h, fun _ => ⟨so, co, sx, cx, rfl, S.out.sub (by repeat (first | exact List.Sublist.refl _ | exact List.nil_sublist _ | apply List.Sublist.cons_cons | apply List.Sublist.cons))⟩⟩)
    | (refine post_pk Tryd.results13 rfl _ pk0 _ rfl rfl (by first | exact S.out.pk 3 rfl | exact S.out.pk 0 rfl) rfl rfl ?_
       refine P4Post.err ?_ (by decide) S.out
       unfold p4E
       repeat' split
       all_goals first
         | rfl
         | omega
         | (rename_i hx; rcases hx with hx | hx <;> first | omega | (rw [hpl] at hx; cases hx))
         | (rename_i hx hy; exact absurd (Or.inr hpl) hx)
         | (rename_i hx; exact absurd (Or.inr hpl) hx)
         | (rename_i hx; exact absurd hvb hx))
end Go.Proofs.YtaecfcaeopmiaaaDoor
