/-
  package icmp: of, most, check.
-/
import Derived.Test.YtpggbbjhbklamaaIcL
import Derived.Test.YtpggbbjhbklamaaHlp
namespace Go.Proofs.Ytpggbbjhbklamaa
open Go.RowKit

theorem addr_cells {V : Int} {bs : List Int} (h : bs.length = 16) : (addrC V bs).size = 17 := by simp [addrC, bts_length, h]
set_option maxHeartbeats 400000 in
theorem of_any (V : Int) (bs : List Int) (v : Int) (w : World) (h : IsA V bs) : Calls Try.prog 19 #[.agg (addrC V bs), .int .i64 v] w (APost w (.bool ((V == v) && validA V bs))) := by
  have L1 := h.len
  have VA := hid (fun W => (show Calls Try.prog 40 #[.agg (addrC V bs)] W (APost W (.bool (validA V bs))) from valid_any V bs W h))
  obtain ⟨R, hR⟩ : ∃ R, R = ((V == v) && validA V bs) := ⟨_, rfl⟩
  rw [← hR]
  have P := hid (fun en w' b (h1 : en = .returned (.bool b)) (hb : b = R) (h2 : Sp w w' []) => show APost w (.bool R) en w' from ⟨by rw [h1, hb], h2.bel⟩)
  have S : Hid (Sp w (w.alloc (.cells (addrC V bs) 24)) [.blk w.heap.size (addrC V bs) 24]) := hid (Sp.in1 ..)
  clear h
  generalize validA V bs = va at *
  obtain ⟨e, he⟩ : ∃ e, (V == v) = e := ⟨_, rfl⟩
  rw [he] at hR
  replace hR := hid hR
  go_enter Try.func19, Try.ntmps19
  go_upto_region 1 with fail
  generalize w.alloc (.cells (addrC V bs) 24) = w' at *
  generalize w.heap.size = b at *
  cases e
  all_goals
    go_wp2_with (first
      | go_skip
      | ((with_reducible show wpList _ _ _ _ _ _); first | ((with_reducible show wpList _ _ _ (⟨_, .load 24 _, _, _, _, _⟩ :: _) _ _); first | (refine wpList_getS (by rfl) _ _ rfl S.out _ rfl 0 _ _ rfl _ (by rfl) Try.underlying24 (by rw [addr_info]; exact congrArg some (addr_cells (by first | rfl | assumption)).symm) ?_) | (refine wpList_getS (by rfl) _ _ rfl S.out _ rfl 1 _ _ rfl _ (by rfl) Try.underlying24 (by rw [addr_info]; exact congrArg some (addr_cells (by first | rfl | assumption)).symm) ?_) | (refine wpList_getS (by rfl) _ _ rfl S.out _ rfl 2 _ _ rfl _ (by rfl) Try.underlying24 (by rw [addr_info]; exact congrArg some (addr_cells (by first | rfl | assumption)).symm) ?_) | (refine wpList_getS (by rfl) _ _ rfl S.out _ rfl 3 _ _ rfl _ (by rfl) Try.underlying24 (by rw [addr_info]; exact congrArg some (addr_cells (by first | rfl | assumption)).symm) ?_) | (refine wpList_getS (by rfl) _ _ rfl S.out _ rfl 4 _ _ rfl _ (by rfl) Try.underlying24 (by rw [addr_info]; exact congrArg some (addr_cells (by first | rfl | assumption)).symm) ?_) | (refine wpList_getS (by rfl) _ _ rfl S.out _ rfl 5 _ _ rfl _ (by rfl) Try.underlying24 (by rw [addr_info]; exact congrArg some (addr_cells (by first | rfl | assumption)).symm) ?_)) | ((with_reducible show wpList _ _ _ (⟨_, .load _ _, _, _, _, _⟩ :: _) _ _); first | (refine wpList_getC (by rfl) _ _ rfl S.out _ _ rfl 0 _ _ rfl _ (addrC_0 _ _) (by rfl) ?_) | (refine wpList_getC (by rfl) _ _ rfl S.out _ _ rfl 1 _ _ rfl _ (addrC_0 _ _) (by rfl) ?_) | (refine wpList_getC (by rfl) _ _ rfl S.out _ _ rfl 2 _ _ rfl _ (addrC_0 _ _) (by rfl) ?_) | (refine wpList_getC (by rfl) _ _ rfl S.out _ _ rfl 3 _ _ rfl _ (addrC_0 _ _) (by rfl) ?_) | (refine wpList_getC (by rfl) _ _ rfl S.out _ _ rfl 4 _ _ rfl _ (addrC_0 _ _) (by rfl) ?_) | (refine wpList_getC (by rfl) _ _ rfl S.out _ _ rfl 5 _ _ rfl _ (addrC_0 _ _) (by rfl) ?_)))
      | (go_at_call 40; refine (VA.out _).mono ?_; rintro en w' ⟨rfl, hb⟩; replace S := hid (S.out.keep hb); clear hb))
    go_ret
    refine P.out _ _ _ rfl ?_ S.out.nil
    rw [hR.out]
    simp
theorem imost_any (V : Int) (w : World) : Calls Try.prog 20 #[.int .i64 V] w fun en w' => en = .returned (.int .i64 (imost V)) ∧ w = w' := by
  by_cases h : V = 4
  · subst h
    go_enter Try.func20, Try.ntmps20
    go_wp2
    go_ret
    exact ⟨rfl, rfl⟩
  · have e := hid (show imost V = 65535 by unfold imost; rw [if_neg h])
    have hd : (V == 4) = false := by simp [h]
    clear h
    go_enter Try.func20, Try.ntmps20
    go_wp2
    go_ret
    exact ⟨by rw [e.out]; rfl, rfl⟩
set_option maxHeartbeats 400000 in
theorem check_any (V : Int) (bs bs2 : List Int) (bv : Value) (l : List Int) (w : World) (h : IsA V bs) (h2 : IsA V bs2) (hp : pairA V bs V bs2 = true) (hb : Rb w bv l) (hl : l.length ≤ 65535) :
    Calls Try.prog 27 #[.agg (addrC V bs), .agg (addrC V bs2), bv] w (APost w (.int .u16 (chkL V bs bs2 l))) := by
  have L1 := h.len
  have L2 := h2.len
  have HB := hid hb
  obtain ⟨ad, cd, rfl, _, _, _⟩ := hb.open
  have hk := partL_bd hb.byt
  have hk2 := partL_bd (headL_byt (V := V) (proto := 58) (n := l.length) h.byt h2.byt (by omega) (by omega))
  have hf := foldL_bd (n := partL (headL V bs bs2 58 l.length) + partL l) (by omega)
  have hc : chkL V bs bs2 l = 65535 - (if V = 6 then foldL (partL (headL V bs bs2 58 l.length) + partL l) else partL l) := rfl
  have PT := hid (fun W (hR : Rb W (.slice ad l.length cd) l) => part_any _ l W hR (by omega))
  have PS := hid (fun W => (show Calls Try.prog 44 #[.agg (addrC V bs), .agg (addrC V bs2), .int .i64 58, .int .i64 l.length] W (APost W (.tuple #[.int .u16 (partL (headL V bs bs2 58 l.length)), .int .i64 0])) from pseudo_yes V bs V bs2 58 l.length W h h2 (by unfold pseOk; rw [hp]; simp; omega)))
  unfold PartPost at PT
  generalize partL (headL V bs bs2 58 l.length) = p1 at *
  generalize partL l = p2 at *
  have AD := hid (fun W => add_any p1 p2 W hk2.1 hk2.2 hk.1 hk.2)
  generalize foldL (p1 + p2) = f at *
  have x1 : IntKind.u16.wrap (65535 - p2) = 65535 - p2 := IntWalk.u16_in _ (by omega)
  have x2 : IntKind.u16.wrap (65535 - f) = 65535 - f := IntWalk.u16_in _ (by omega)
  have x3 : (65535 - p2) % 65536 = 65535 - p2 := by omega
  have x4 : (65535 - f) % 65536 = 65535 - f := by omega
  obtain ⟨R, hR⟩ : ∃ R, R = chkL V bs bs2 l := ⟨_, rfl⟩
  rw [← hR]
  rw [hc] at hR
  replace hR := hid hR
  have P := hid (fun en w' c (h1 : en = .returned (.int .u16 c)) (hcc : c = R) (h2 : Sp w w' []) => show APost w (.int .u16 R) en w' from ⟨by rw [h1, hcc], h2.bel⟩)
  have S : Hid (Sp w ((w.alloc (.cells (addrC V bs) 24)).alloc (.cells (addrC V bs2) 24)) [.blk (w.heap.size + 1) (addrC V bs2) 24, .blk w.heap.size (addrC V bs) 24]) := hid (Sp.in2 ..)
  clear h h2 hp hb hl hk hk2 hf hc
  obtain ⟨e, he, h6⟩ : ∃ e, (V == 6) = e ∧ (V = 6 ↔ e = true) := ⟨_, rfl, by simp⟩
  replace h6 := hid h6
  go_enter Try.func27, Try.ntmps27
  go_upto_region 1 with fail
  generalize (w.alloc (.cells (addrC V bs) 24)).alloc (.cells (addrC V bs2) 24) = w' at *
  generalize w.heap.size = b at *
  cases e
  all_goals
    go_wp2_with (first
      | go_skip
      | ((with_reducible show wpList _ _ _ _ _ _); first | ((with_reducible show wpList _ _ _ (⟨_, .load 24 _, _, _, _, _⟩ :: _) _ _); first | (refine wpList_getS (by rfl) _ _ rfl S.out _ rfl 0 _ _ rfl _ (by rfl) Try.underlying24 (by rw [addr_info]; exact congrArg some (addr_cells (by first | rfl | assumption)).symm) ?_) | (refine wpList_getS (by rfl) _ _ rfl S.out _ rfl 1 _ _ rfl _ (by rfl) Try.underlying24 (by rw [addr_info]; exact congrArg some (addr_cells (by first | rfl | assumption)).symm) ?_) | (refine wpList_getS (by rfl) _ _ rfl S.out _ rfl 2 _ _ rfl _ (by rfl) Try.underlying24 (by rw [addr_info]; exact congrArg some (addr_cells (by first | rfl | assumption)).symm) ?_) | (refine wpList_getS (by rfl) _ _ rfl S.out _ rfl 3 _ _ rfl _ (by rfl) Try.underlying24 (by rw [addr_info]; exact congrArg some (addr_cells (by first | rfl | assumption)).symm) ?_) | (refine wpList_getS (by rfl) _ _ rfl S.out _ rfl 4 _ _ rfl _ (by rfl) Try.underlying24 (by rw [addr_info]; exact congrArg some (addr_cells (by first | rfl | assumption)).symm) ?_) | (refine wpList_getS (by rfl) _ _ rfl S.out _ rfl 5 _ _ rfl _ (by rfl) Try.underlying24 (by rw [addr_info]; exact congrArg some (addr_cells (by first | rfl | assumption)).symm) ?_)) | ((with_reducible show wpList _ _ _ (⟨_, .load _ _, _, _, _, _⟩ :: _) _ _); first | (refine wpList_getC (by rfl) _ _ rfl S.out _ _ rfl 0 _ _ rfl _ (addrC_0 _ _) (by rfl) ?_) | (refine wpList_getC (by rfl) _ _ rfl S.out _ _ rfl 1 _ _ rfl _ (addrC_0 _ _) (by rfl) ?_) | (refine wpList_getC (by rfl) _ _ rfl S.out _ _ rfl 2 _ _ rfl _ (addrC_0 _ _) (by rfl) ?_) | (refine wpList_getC (by rfl) _ _ rfl S.out _ _ rfl 3 _ _ rfl _ (addrC_0 _ _) (by rfl) ?_) | (refine wpList_getC (by rfl) _ _ rfl S.out _ _ rfl 4 _ _ rfl _ (addrC_0 _ _) (by rfl) ?_) | (refine wpList_getC (by rfl) _ _ rfl S.out _ _ rfl 5 _ _ rfl _ (addrC_0 _ _) (by rfl) ?_)))
      | (go_at_call 43; refine (PT.out _ (HB.out.below S.out.bel)).mono ?_; rintro en w' ⟨rfl, hd⟩; replace S := hid (S.out.keep (hd.below _)); clear hd)
      | (go_at_call 45; refine (AD.out _).mono ?_; rintro en w'' ⟨rfl, rfl⟩)
      | (go_at_call 44; refine (PS.out _).mono ?_; rintro en w' ⟨rfl, hb⟩; replace S := hid (S.out.keep hb); clear hb))
    go_ret
    refine P.out _ _ _ rfl ?_ S.out.nil
    have h7 := h6.out
    simp at h7
    rw [hR.out]
    simp [h7]
end Go.Proofs.Ytpggbbjhbklamaa
