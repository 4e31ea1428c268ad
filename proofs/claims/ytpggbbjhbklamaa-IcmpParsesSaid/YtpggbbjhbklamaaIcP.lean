/-
  package icmp: Parse at two right addresses.
-/
import Derived.Test.YtpggbbjhbklamaaIcB
import Derived.Test.YtpggbbjhbklamaaSpR
import Derived.Test.YtpggbbjhbklamaaTree
import Derived.Test.YtpggbbjhbklamaaGetB
namespace Go.Proofs.Ytpggbbjhbklamaa
open Go.RowKit

/-- the end of a call that tells a message that lies in a block, and a number -/
theorem post_msg {fn : Func} {R : Ending → World → Prop} {a : Act} {w : World} {p u : Tmp} (h : fn.results = #[.cell p 28, .tmp u]) (hd : a.defers = []) (b : Nat) (cs : Array Value) (e : Value) (hp : a.tmps.getD p undef = .pointer (some ⟨b, 0, none⟩)) (he : a.tmps.getD u undef = e) (hA : w.heap[b]? = some (.cells cs 28 (0, 0)))
    (hz : (Try.prog.info? 28).map (·.size) = some cs.size) (hR : R (.returned (.tuple #[.agg cs, e])) w) : bodyPost Try.prog fn R .ret a w :=
  bodyPost_ret (by
    rw [results_cell_tmp h]
    simp only [hp, asAddr, Sem.run_pure, Result.andThen_ok, run_loadVar_row w b 28 28 cs (0, 0) _ hA Try.underlying28 rfl hz, he]) hd hR
def msg0 : Array Value := #[.int .i64 0, .int .i64 0, .int .i64 0, .int .u32 0, .slice none 0 0]
theorem msg_one {V T C R : Int} {bv : Value} (h : bv.oneCell' = true) : (msgC V T C R bv).all (·.oneCell') = true := all_oneCell_toArray (by
  intro v hv
  simp only [List.mem_cons, List.not_mem_nil, or_false] at hv
  rcases hv with rfl | rfl | rfl | rfl | rfl
  all_goals first | rfl | exact h)
theorem msg0_one : msg0.all (·.oneCell') = true := msg_one (V := 0) (T := 0) (C := 0) (R := 0) (bv := .slice none 0 0) rfl
theorem msg_info : (Try.prog.info? 28).map (·.size) = some 5 := by kernel_rfl
/-- what Parse tells -/
def IPost (V : Int) (bs bs2 l : List Int) (w : World) (en : Ending) (w' : World) : Prop :=
  (iE V bs bs2 l ≠ 0 → en = .returned (.tuple #[.agg msg0, .int .i64 (iE V bs bs2 l)]) ∧ Below w.heap.size w w') ∧
  (iE V bs bs2 l = 0 → ∃ sx cx, en = .returned (.tuple #[.agg (msgC V (gt l 0) (gt l 1) (iR l) (.slice sx (l.length - 8) cx)), .int .i64 0]) ∧ Sp w w' [.row (.slice sx (l.length - 8) cx) 5 1 (l.length - 8) (bts (l.drop 8))])
theorem IPost.err {V : Int} {bs bs2 l : List Int} {w w' : World} {e : Int} (he : e = iE V bs bs2 l) (h0 : e ≠ 0) (hb : Below w.heap.size w w') : IPost V bs bs2 l w (.returned (.tuple #[.agg msg0, .int .i64 e])) w' := by
  subst he
  exact ⟨fun _ => ⟨rfl, hb⟩, fun h => absurd h h0⟩
theorem iE_word {V : Int} {bs bs2 l : List Int} (hb : Byt l) (h8 : 8 ≤ l.length) (hm : (l.length : Int) ≤ imost V) {s : Int} (hs : chkL V bs bs2 (zero23 l) = s) (_ : 0 ≤ s) (_ : s ≤ 65535) : iE V bs bs2 l = if gt l 2 = s / 256 ∧ gt l 3 = s % 256 then 0 else 52 := by
  have y2 := hb.bd 2; have y3 := hb.bd 3
  unfold iE
  rw [if_neg (by omega), if_neg (by omega), hs]
  have : wordL l 2 = 256 * gt l 2 + gt l 3 := rfl
  by_cases h : gt l 2 = s / 256 ∧ gt l 3 = s % 256
  · rw [if_pos h, if_pos (by omega)]
  · rw [if_neg h, if_neg (by omega)]
set_option maxHeartbeats 1000000 in
set_option maxRecDepth 20000 in
theorem iparse_any (V : Int) (bs bs2 : List Int) (bv : Value) (l : List Int) (w : World) (h : IsA V bs) (h2 : IsA V bs2) (hp : pairA V bs V bs2 = true) (hb : Rb w bv l) (_ : l.length ≤ 140737488355328) :
    Calls Try.prog 14 #[.agg (addrC V bs), .agg (addrC V bs2), bv] w (IPost V bs bs2 l w) := by
  have L1 := h.len
  have L2 := h2.len
  have hm : imost V ≤ 65535 := by unfold imost; split <;> omega
  obtain ⟨va, vb⟩ := pairA_parts hp
  have OF1 := hid (fun W => (show Calls Try.prog 19 #[.agg (addrC V bs), .int .i64 V] W (APost W (.bool true)) from by have := of_any V bs V W h; rwa [va, show (V == V) = true by simp] at this))
  have OF2 := hid (fun W => (show Calls Try.prog 19 #[.agg (addrC V bs2), .int .i64 V] W (APost W (.bool true)) from by have := of_any V bs2 V W h2; rwa [vb, show (V == V) = true by simp] at this))
  have MO := hid (fun W => imost_any V W)
  have HB := hid hb
  have YB := hb.byt
  have YZ := zero23_byt YB
  have CK := hid (fun W v (hv : Rb W v (zero23 l)) (h6 : l.length ≤ 65535) => check_any V bs bs2 v _ W h h2 hp hv (by rw [zero23_len]; exact h6))
  have HS := hid (fun (h6 : l.length ≤ 65535) => chkL_bd (V := V) h.byt h2.byt YZ (by rw [zero23_len]; exact h6))
  have EW := hid (fun (h8 : 8 ≤ l.length) (hm8 : (l.length : Int) ≤ imost V) (h6 : l.length ≤ 65535) => iE_word (V := V) (bs := bs) (bs2 := bs2) YB h8 hm8 rfl (HS.out h6).1 (HS.out h6).2)
  have E1 := hid (fun (h8 : l.length < 8) => (show (20 : Int) = iE V bs bs2 l from by unfold iE; rw [if_pos h8]))
  have E2 := hid (fun (h8 : ¬ l.length < 8) (h9 : imost V < l.length) => (show (3 : Int) = iE V bs bs2 l from by unfold iE; rw [if_neg h8, if_pos h9]))
  have PE := hid (fun w' e (he : e = iE V bs bs2 l) (h0 : e ≠ 0) (hS : Sp w w' []) => IPost.err he h0 hS.bel)
  have PG := hid (fun w' sx cx (he : iE V bs bs2 l = 0) (hS : Sp w w' [.row (.slice sx (l.length - 8) cx) 5 1 (l.length - 8) (bts (l.drop 8))]) => (show IPost V bs bs2 l w (.returned (.tuple #[.agg (msgC V (gt l 0) (gt l 1) (iR l) (.slice sx (l.length - 8) cx)), .int .i64 0])) w' from ⟨fun hn => absurd he hn, fun _ => ⟨sx, cx, rfl, hS⟩⟩))
  generalize chkL V bs bs2 (zero23 l) = s at *
  obtain ⟨ad, cd, rfl, _, hmd, hz⟩ := hb.open
  unfold maxLen at hmd
  have S : Hid (Sp w (((w.alloc (.cells (addrC V bs) 24)).alloc (.cells (addrC V bs2) 24)).alloc (.cells msg0 28)) [.blk (w.heap.size + 2) msg0 28, .blk (w.heap.size + 1) (addrC V bs2) 24, .blk w.heap.size (addrC V bs) 24]) := hid (Sp.in3 ..)
  unfold msg0 at S
  clear h h2 hp hb va vb
  obtain ⟨mv, hmv⟩ : ∃ mv, mv = imost V := ⟨_, rfl⟩
  rw [← hmv] at hm MO EW E2
  clear hmv
  by_cases h8 : l.length < 8
  · have e1 := E1.out h8
    have d8 : decide ((l.length : Int) < 8) = true := by simp; omega
    replace e1 := hid e1
    clear HS EW E1 E2 hz hm
    go_enter Try.func14, Try.ntmps14
    go_upto_region 1 with fail
    generalize (((w.alloc (.cells (addrC V bs) 24)).alloc (.cells (addrC V bs2) 24)).alloc (.cells _ 28)) = w' at *
    generalize w.heap.size = b at *
    go_wp2_with (first
      | go_skip
      | ((with_reducible show wpList _ _ _ _ _ _); first | ((with_reducible show wpList _ _ _ (⟨_, .load 24 _, _, _, _, _⟩ :: _) _ _); first | (refine wpList_getS (by rfl) _ _ rfl S.out _ rfl 0 _ _ rfl _ (by rfl) Try.underlying24 (by rw [addr_info]; exact congrArg some (addr_cells (by first | rfl | assumption)).symm) ?_) | (refine wpList_getS (by rfl) _ _ rfl S.out _ rfl 1 _ _ rfl _ (by rfl) Try.underlying24 (by rw [addr_info]; exact congrArg some (addr_cells (by first | rfl | assumption)).symm) ?_) | (refine wpList_getS (by rfl) _ _ rfl S.out _ rfl 2 _ _ rfl _ (by rfl) Try.underlying24 (by rw [addr_info]; exact congrArg some (addr_cells (by first | rfl | assumption)).symm) ?_) | (refine wpList_getS (by rfl) _ _ rfl S.out _ rfl 3 _ _ rfl _ (by rfl) Try.underlying24 (by rw [addr_info]; exact congrArg some (addr_cells (by first | rfl | assumption)).symm) ?_) | (refine wpList_getS (by rfl) _ _ rfl S.out _ rfl 4 _ _ rfl _ (by rfl) Try.underlying24 (by rw [addr_info]; exact congrArg some (addr_cells (by first | rfl | assumption)).symm) ?_) | (refine wpList_getS (by rfl) _ _ rfl S.out _ rfl 5 _ _ rfl _ (by rfl) Try.underlying24 (by rw [addr_info]; exact congrArg some (addr_cells (by first | rfl | assumption)).symm) ?_)) | ((with_reducible show wpList _ _ _ (⟨_, .load _ _, _, _, _, _⟩ :: _) _ _); first | (refine wpList_getC (by rfl) _ _ rfl S.out _ _ rfl 0 _ _ rfl _ (addrC_0 _ _) (by rfl) ?_) | (refine wpList_getC (by rfl) _ _ rfl S.out _ _ rfl 1 _ _ rfl _ (addrC_0 _ _) (by rfl) ?_) | (refine wpList_getC (by rfl) _ _ rfl S.out _ _ rfl 2 _ _ rfl _ (addrC_0 _ _) (by rfl) ?_) | (refine wpList_getC (by rfl) _ _ rfl S.out _ _ rfl 3 _ _ rfl _ (addrC_0 _ _) (by rfl) ?_) | (refine wpList_getC (by rfl) _ _ rfl S.out _ _ rfl 4 _ _ rfl _ (addrC_0 _ _) (by rfl) ?_) | (refine wpList_getC (by rfl) _ _ rfl S.out _ _ rfl 5 _ _ rfl _ (addrC_0 _ _) (by rfl) ?_)) | ((with_reducible show wpList _ _ _ (⟨_, .store _ _ _, _, _, _, _⟩ :: _) _ _); refine wpList_putS (by rfl) _ _ _ rfl rfl S.out _ msg0 rfl rfl 0 _ _ rfl msg_info rfl msg0_one ?_; intro w' hS; simp only [List.set] at hS; replace S := hid hS; clear hS))
      | (go_at_call 19; first | ((have M3 := M2); refine (OF2.out _).mono ?_; rintro en w' ⟨rfl, hb⟩; replace S := hid (S.out.keep hb); clear hb) | (refine (OF1.out _).mono ?_; have M2 := True.intro; rintro en w' ⟨rfl, hb⟩; replace S := hid (S.out.keep hb); clear hb)))
    refine post_msg Try.results14 rfl _ msg0 _ rfl rfl (S.out.heap 0 rfl) (by kernel_rfl) ?_
    exact PE.out _ 20 e1.out (by decide) S.out.nil
  · have d8 : decide ((l.length : Int) < 8) = false := by simp; omega
    by_cases h9 : mv < l.length
    · have e1 := hid (E2.out h8 h9)
      have d9 : decide (mv < (l.length : Int)) = true := decide_eq_true h9
      clear HS EW E1 E2 hz hm
      go_enter Try.func14, Try.ntmps14
      go_upto_region 1 with fail
      generalize (((w.alloc (.cells (addrC V bs) 24)).alloc (.cells (addrC V bs2) 24)).alloc (.cells _ 28)) = w' at *
      generalize w.heap.size = b at *
      go_wp2_with (first
        | go_skip
        | ((with_reducible show wpList _ _ _ _ _ _); first | ((with_reducible show wpList _ _ _ (⟨_, .load 24 _, _, _, _, _⟩ :: _) _ _); first | (refine wpList_getS (by rfl) _ _ rfl S.out _ rfl 0 _ _ rfl _ (by rfl) Try.underlying24 (by rw [addr_info]; exact congrArg some (addr_cells (by first | rfl | assumption)).symm) ?_) | (refine wpList_getS (by rfl) _ _ rfl S.out _ rfl 1 _ _ rfl _ (by rfl) Try.underlying24 (by rw [addr_info]; exact congrArg some (addr_cells (by first | rfl | assumption)).symm) ?_) | (refine wpList_getS (by rfl) _ _ rfl S.out _ rfl 2 _ _ rfl _ (by rfl) Try.underlying24 (by rw [addr_info]; exact congrArg some (addr_cells (by first | rfl | assumption)).symm) ?_) | (refine wpList_getS (by rfl) _ _ rfl S.out _ rfl 3 _ _ rfl _ (by rfl) Try.underlying24 (by rw [addr_info]; exact congrArg some (addr_cells (by first | rfl | assumption)).symm) ?_) | (refine wpList_getS (by rfl) _ _ rfl S.out _ rfl 4 _ _ rfl _ (by rfl) Try.underlying24 (by rw [addr_info]; exact congrArg some (addr_cells (by first | rfl | assumption)).symm) ?_) | (refine wpList_getS (by rfl) _ _ rfl S.out _ rfl 5 _ _ rfl _ (by rfl) Try.underlying24 (by rw [addr_info]; exact congrArg some (addr_cells (by first | rfl | assumption)).symm) ?_)) | ((with_reducible show wpList _ _ _ (⟨_, .load _ _, _, _, _, _⟩ :: _) _ _); first | (refine wpList_getC (by rfl) _ _ rfl S.out _ _ rfl 0 _ _ rfl _ (addrC_0 _ _) (by rfl) ?_) | (refine wpList_getC (by rfl) _ _ rfl S.out _ _ rfl 1 _ _ rfl _ (addrC_0 _ _) (by rfl) ?_) | (refine wpList_getC (by rfl) _ _ rfl S.out _ _ rfl 2 _ _ rfl _ (addrC_0 _ _) (by rfl) ?_) | (refine wpList_getC (by rfl) _ _ rfl S.out _ _ rfl 3 _ _ rfl _ (addrC_0 _ _) (by rfl) ?_) | (refine wpList_getC (by rfl) _ _ rfl S.out _ _ rfl 4 _ _ rfl _ (addrC_0 _ _) (by rfl) ?_) | (refine wpList_getC (by rfl) _ _ rfl S.out _ _ rfl 5 _ _ rfl _ (addrC_0 _ _) (by rfl) ?_)) | ((with_reducible show wpList _ _ _ (⟨_, .store _ _ _, _, _, _, _⟩ :: _) _ _); refine wpList_putS (by rfl) _ _ _ rfl rfl S.out _ msg0 rfl rfl 0 _ _ rfl msg_info rfl msg0_one ?_; intro w' hS; simp only [List.set] at hS; replace S := hid hS; clear hS))
        | (go_at_call 20; refine (MO.out _).mono ?_; rintro en w'' ⟨rfl, rfl⟩)
        | (go_at_call 19; first | ((have M3 := M2); refine (OF2.out _).mono ?_; rintro en w' ⟨rfl, hb⟩; replace S := hid (S.out.keep hb); clear hb) | (refine (OF1.out _).mono ?_; have M2 := True.intro; rintro en w' ⟨rfl, hb⟩; replace S := hid (S.out.keep hb); clear hb)))
      refine post_msg Try.results14 rfl _ msg0 _ rfl rfl (S.out.heap 0 rfl) msg_info ?_
      exact PE.out _ 3 e1.out (by decide) S.out.nil
    · have d9 : decide (mv < (l.length : Int)) = false := decide_eq_false h9
      have h6 : l.length ≤ 65535 := by omega
      have he := EW.out (by omega) (by omega) h6
      have hs := HS.out h6
      have ZL := hid (zero23_len l)
      have CK2 := hid (fun W v (hv : Rb W v (zero23 l)) => CK.out W v hv h6)
      obtain ⟨bk, off, rfl, hcell⟩ := hz.resolve_left (by omega)
      have y1 : IntKind.u8.wrap (s / 256) = s / 256 := IntWalk.u8_in _ (by omega)
      have y2 : IntKind.u8.wrap s = s % 256 := by rw [IntKind.wrap_u8]
      have h8' : 8 ≤ l.length := by omega
      clear E1 E2 HS EW CK hcell h8 h9 hm
      go_enter Try.func14, Try.ntmps14
      go_upto_region 1 with fail
      generalize (((w.alloc (.cells (addrC V bs) 24)).alloc (.cells (addrC V bs2) 24)).alloc (.cells _ 28)) = w' at *
      generalize w.heap.size = b at *
      go_upto_region 10 with (first
        | go_skip
        | ((with_reducible show wpList _ _ _ _ _ _); first | ((with_reducible show wpList _ _ _ (⟨_, .load 24 _, _, _, _, _⟩ :: _) _ _); first | (refine wpList_getS (by rfl) _ _ rfl S.out _ rfl 0 _ _ rfl _ (by rfl) Try.underlying24 (by rw [addr_info]; exact congrArg some (addr_cells (by first | rfl | assumption)).symm) ?_) | (refine wpList_getS (by rfl) _ _ rfl S.out _ rfl 1 _ _ rfl _ (by rfl) Try.underlying24 (by rw [addr_info]; exact congrArg some (addr_cells (by first | rfl | assumption)).symm) ?_) | (refine wpList_getS (by rfl) _ _ rfl S.out _ rfl 2 _ _ rfl _ (by rfl) Try.underlying24 (by rw [addr_info]; exact congrArg some (addr_cells (by first | rfl | assumption)).symm) ?_) | (refine wpList_getS (by rfl) _ _ rfl S.out _ rfl 3 _ _ rfl _ (by rfl) Try.underlying24 (by rw [addr_info]; exact congrArg some (addr_cells (by first | rfl | assumption)).symm) ?_) | (refine wpList_getS (by rfl) _ _ rfl S.out _ rfl 4 _ _ rfl _ (by rfl) Try.underlying24 (by rw [addr_info]; exact congrArg some (addr_cells (by first | rfl | assumption)).symm) ?_) | (refine wpList_getS (by rfl) _ _ rfl S.out _ rfl 5 _ _ rfl _ (by rfl) Try.underlying24 (by rw [addr_info]; exact congrArg some (addr_cells (by first | rfl | assumption)).symm) ?_)) | ((with_reducible show wpList _ _ _ (⟨_, .load _ _, _, _, _, _⟩ :: _) _ _); first | (refine wpList_getC (by rfl) _ _ rfl S.out _ _ rfl 0 _ _ rfl _ (addrC_0 _ _) (by rfl) ?_) | (refine wpList_getC (by rfl) _ _ rfl S.out _ _ rfl 1 _ _ rfl _ (addrC_0 _ _) (by rfl) ?_) | (refine wpList_getC (by rfl) _ _ rfl S.out _ _ rfl 2 _ _ rfl _ (addrC_0 _ _) (by rfl) ?_) | (refine wpList_getC (by rfl) _ _ rfl S.out _ _ rfl 3 _ _ rfl _ (addrC_0 _ _) (by rfl) ?_) | (refine wpList_getC (by rfl) _ _ rfl S.out _ _ rfl 4 _ _ rfl _ (addrC_0 _ _) (by rfl) ?_) | (refine wpList_getC (by rfl) _ _ rfl S.out _ _ rfl 5 _ _ rfl _ (addrC_0 _ _) (by rfl) ?_)) | ((with_reducible show wpList _ _ _ (⟨_, .store _ _ _, _, _, _, _⟩ :: _) _ _); refine wpList_put_row (by rfl) _ _ rfl rfl S.out _ _ rfl _ rfl 0 _ _ _ rfl (by omega) ?_; intro w' hS; simp only [List.set] at hS; replace S := hid hS; clear hS))
        | (go_at_call 20; refine (MO.out _).mono ?_; rintro en w'' ⟨rfl, rfl⟩)
        | (go_at_call 27; refine (CK2.out _ _ (S.out.rb 0 rfl YZ)).mono ?_; rintro en w' ⟨rfl, hb⟩; replace S := hid (S.out.keep hb); clear hb)
        | (go_at_call 31; refine (clone_any _ l _ (HB.out.below S.out.bel) (by omega)).mono ?_; rintro en w' ⟨v, rfl, ho, hb⟩; have hS := Sp.ofOwn ho hb; obtain ⟨gg, cc, rfl⟩ := hS.rowopen 0 rfl (by omega); clear ho hb; replace hS := S.out.call hS; simp only [List.cons_append, List.nil_append] at hS; replace S := hid hS; clear hS)
        | (go_at_call 19; first | ((have M3 := M2); refine (OF2.out _).mono ?_; rintro en w' ⟨rfl, hb⟩; replace S := hid (S.out.keep hb); clear hb) | (refine (OF1.out _).mono ?_; have M2 := True.intro; rintro en w' ⟨rfl, hb⟩; replace S := hid (S.out.keep hb); clear hb)))
      replace S := hid (S.out.sub (List.sublist_cons_self _ _))
      have hk : (gt l 2 != s / 256) = true ∨ ((gt l 2 != s / 256) = false ∧ (gt l 3 != s % 256) = true) ∨ ((gt l 2 != s / 256) = false ∧ (gt l 3 != s % 256) = false) := by
        cases h : (gt l 2 != s / 256) <;> cases h' : (gt l 3 != s % 256) <;> simp
      clear CK2 OF1 OF2 MO hs
      rcases hk with hk2 | ⟨hk2, hk3⟩ | ⟨hk2, hk3⟩
      · have e1 := hid (show (52 : Int) = iE V bs bs2 l from by rw [he, if_neg (by intro h; simp [h.1] at hk2)])
        clear he
        go_wp2_with (first
          | go_skip
          | ((with_reducible show wpList _ _ _ _ _ _); first | (have HR := hid (HB.out.below S.out.bel); (with_reducible show wpList _ _ _ (⟨_, .load _ _, _, _, _, _⟩ :: _) _ _); refine wpList_get_rb (by rfl) _ rfl HR.out 2 _ rfl rfl (by omega) ?_) | ((with_reducible show wpList _ _ _ (⟨_, .store _ _ _, _, _, _, _⟩ :: _) _ _); refine wpList_putS (by rfl) _ _ _ rfl rfl S.out _ msg0 rfl rfl 0 _ _ rfl msg_info rfl msg0_one ?_; intro w' hS; simp only [List.set] at hS; replace S := hid hS; clear hS)))
        refine post_msg Try.results14 rfl _ msg0 _ rfl rfl (S.out.heap 0 rfl) msg_info ?_
        exact PE.out _ 52 e1.out (by decide) S.out.nil
      · have e1 := hid (show (52 : Int) = iE V bs bs2 l from by rw [he, if_neg (by intro h; simp [h.2] at hk3)])
        clear he
        go_wp2_with (first
          | go_skip
          | ((with_reducible show wpList _ _ _ _ _ _); first | (have HR := hid (HB.out.below S.out.bel); (with_reducible show wpList _ _ _ (⟨_, .load _ _, _, _, _, _⟩ :: _) _ _); first | (refine wpList_get_rb (by rfl) _ rfl HR.out 2 _ rfl rfl (by omega) ?_) | (refine wpList_get_rb (by rfl) _ rfl HR.out 3 _ rfl rfl (by omega) ?_)) | ((with_reducible show wpList _ _ _ (⟨_, .store _ _ _, _, _, _, _⟩ :: _) _ _); refine wpList_putS (by rfl) _ _ _ rfl rfl S.out _ msg0 rfl rfl 0 _ _ rfl msg_info rfl msg0_one ?_; intro w' hS; simp only [List.set] at hS; replace S := hid hS; clear hS)))
        refine post_msg Try.results14 rfl _ msg0 _ rfl rfl (S.out.heap 0 rfl) msg_info ?_
        exact PE.out _ 52 e1.out (by decide) S.out.nil
      · have e1 := hid (show iE V bs bs2 l = 0 from by rw [he, if_pos (by simpa using And.intro hk2 hk3)])
        have b0 := YB.bd 0
        have b1 := YB.bd 1
        have q0 : IntKind.i64.wrap (gt l 0) = gt l 0 := IntWalk.i64_in _ (by omega)
        have q1 : IntKind.i64.wrap (gt l 1) = gt l 1 := IntWalk.i64_in _ (by omega)
        have q2 : wrap64 (gt l 0) = gt l 0 := IntWalk.wrap64_in _ (by omega)
        have q3 : wrap64 (gt l 1) = gt l 1 := IntWalk.wrap64_in _ (by omega)
        clear he b0 b1
        go_upto_region 13 with (first
          | go_skip
          | ((with_reducible show wpList _ _ _ _ _ _); (have HR := hid (HB.out.below S.out.bel); (with_reducible show wpList _ _ _ (⟨_, .load _ _, _, _, _, _⟩ :: _) _ _); first | (refine wpList_get_rb (by rfl) _ rfl HR.out 2 _ rfl rfl (by omega) ?_) | (refine wpList_get_rb (by rfl) _ rfl HR.out 3 _ rfl rfl (by omega) ?_)))
          | (go_at_call 32; refine (rnewP _ l _ (HB.out.below S.out.bel) (by omega)).mono ?_; rintro en w' ⟨rb, rfl, hR, hb⟩; replace S := hid (S.out.newR hR hb); clear hR hb))
        (try simp only [Act.put, List.setIfInBounds_toArray, List.set_cons_zero, List.set_cons_succ])
        go_cut [11] from 12 (fun v wc => ∃ b1 base top, v = .pointer (some ⟨b1, 0, none⟩) ∧ Sp w wc [.blk b1 (msgC V (gt l 0) (gt l 1) 0 (.slice none 0 0)) 28, rdZ base top rb l 2, .blk (b + 2) msg0 28])
        case first =>
          refine wp_region_ord (.weak 0 (.weak 1 (.weak 2 (.weak 5 (.two 3 9 (.weak 4 (.two 6 9 (.weak 7 (.weak 8 (.strong 9 (.strong 10 (.done))))) (.strong 6 (.weak 7 (.weak 8 (.strong 10 (.done))))))) (.strong 3 (.weak 4 (.strong 6 (.weak 7 (.weak 8 (.strong 10 (.done)))))))))))) (fun W => Sp w W [.blk b (addrC V bs) 24]) (by kernel_rfl) (by kernel_rfl) (fun c a d v w h => by cases d <;> exact h) ?_ ?_
          · exact (S.out.same (Same.drew _)).sub (by repeat (first | exact List.Sublist.refl _ | exact List.nil_sublist _ | apply List.Sublist.cons_cons | apply List.Sublist.cons))
          replace S := hid (S.out.same (Same.drew w'))
          generalize w'.drew = w' at *
          simp only [Ord.pick, List.getElem?_cons_succ, List.getElem?_cons_zero]
          repeat' (first
            | ((with_reducible show wpE _ _ _ _ _ _ _); (first | (refine wpE_weak (by rfl) ?_; apply Exists.intro; refine ⟨fun wS hS => ?_, ?_⟩; (focus (have c0 := hS.cellC 0 rfl (addrC_0 V bs); go_simp; (try with_reducible rfl); done)); simp only [Act.put, List.setIfInBounds_toArray, List.set_cons_zero, List.set_cons_succ]) | (refine wpE_pass (by rfl) ?_; simp only [Act.put, List.setIfInBounds_toArray, List.set_cons_zero, List.set_cons_succ])))
            | ((with_reducible show wpE _ _ _ _ _ _ _); refine wpE_strongL (by rfl) ?_)
            | ((with_reducible show wpE _ _ _ _ _ _ _); refine wpE_twoL (by rfl) (by rfl) ?_ ?_)
            | ((with_reducible show wpList _ _ _ _ _ _); go_wp2_with (first
              | go_skip
              | ((with_reducible show wpList _ _ _ _ _ _); ((with_reducible show wpList _ _ _ (⟨_, .store _ _ _, _, _, _, _⟩ :: _) _ _); refine wpList_putS (by rfl) _ _ _ rfl rfl S.out _ (msgC V (gt l 0) (gt l 1) 0 (.slice none 0 0)) rfl rfl 0 _ _ rfl msg_info (by rfl) (msg_one rfl) ?_; intro w' hS; simp only [List.set] at hS; replace S := hid hS; clear hS))
              | (go_at_call 33; refine (r8P _ _ rb l _ _ (by first | exact S.out.rdP 0 rfl | exact S.out.rdP 1 rfl) (by omega)).mono ?_; rintro en w' ⟨rfl, hR, hF, -⟩; (first | (have hS := S.out.got 0 rfl hR hF) | (have hS := S.out.got 1 rfl hR hF)); simp only [List.set_cons_zero, List.set_cons_succ, Nat.reduceAdd] at hS; replace S := hid hS; clear hS hR hF)))
            | ((with_reducible show qEnd _ _ _ _ (World.alloc _ _)); refine (fun (h : ∀ w2, w2 = World.alloc _ _ → qEnd _ _ .normal _ w2) => h _ rfl) ?_; intro w' hw2; replace S := hid (S.out.alloc hw2); clear hw2)
            | (((with_reducible show qEnd _ _ _ _ _); refine qEnd_done (S.out.sub (by repeat (first | exact List.Sublist.refl _ | exact List.nil_sublist _ | apply List.Sublist.cons_cons | apply List.Sublist.cons))) ?_; (try simp only [Act.put, List.setIfInBounds_toArray, List.set_cons_zero, List.set_cons_succ])))
            | ((with_reducible show wpE _ _ _ _ _ _ _); refine wpE_done ?_; go_simp; go_step; go_meet))
          all_goals exact ⟨_, _, _, rfl, S.out.sub (by repeat (first | exact List.Sublist.refl _ | exact List.nil_sublist _ | apply List.Sublist.cons_cons | apply List.Sublist.cons))⟩
        case rest =>
        obtain ⟨b1, base, top, rfl, hS⟩ := hcut
        replace S := hid hS
        clear hS
        have w' := wc
        have eR : iR l = quadL l 4 := by
          show ((gt l 4 * 256 + gt l 5) * 256 + gt l 6) * 256 + gt l 7 = 65536 * (256 * gt l 4 + gt l 5) + (256 * gt l 6 + gt l 7)
          omega
        rw [eR] at PG
        clear eR q0 q1 q2 q3
        generalize gt l 0 = g0 at *
        generalize gt l 1 = g1 at *
        unfold msgC at S
        go_wp2_with (first
          | go_skip
          | ((with_reducible show wpList _ _ _ _ _ _)
             first
             | ((with_reducible show wpList _ _ _ (⟨_, .load _ _, _, _, _, _⟩ :: _) _ _); refine wpList_getS (by rfl) _ _ rfl S.out _ rfl 1 _ _ rfl _ (by rfl) Try.underlying28 msg_info ?_)
             | ((with_reducible show wpList _ _ _ (⟨_, .store _ _ _, _, _, _, _⟩ :: _) _ _); refine wpList_putC (by rfl) _ _ _ rfl rfl S.out _ _ rfl 0 _ _ rfl _ rfl rfl rfl (by rfl) (by simp) ?_; intro w' hS; simp only [List.set] at hS; replace S := hid hS; clear hS)
             | ((with_reducible show wpList _ _ _ (⟨_, .store _ _ _, _, _, _, _⟩ :: _) _ _); refine wpList_putC (by rfl) _ _ _ rfl rfl S.out _ _ rfl 1 _ _ rfl _ rfl rfl rfl (by rfl) (by simp) ?_; intro w' hS; simp only [List.set] at hS; replace S := hid hS; clear hS)
             | ((with_reducible show wpList _ _ _ (⟨_, .store _ _ _, _, _, _, _⟩ :: _) _ _); refine wpList_putS (by rfl) _ _ _ rfl rfl S.out _ (msgC V g0 g1 (quadL l 4) (.slice _ _ _)) rfl rfl 3 _ _ rfl msg_info (by rfl) (msg_one rfl) ?_; intro w' hS; simp only [List.set] at hS; replace S := hid hS; clear hS))
          | (go_at_call 34; refine (r16P _ _ rb l _ _ (by first | exact S.out.rdP 0 rfl | exact S.out.rdP 1 rfl) (by omega)).mono ?_; rintro en w' ⟨rfl, hR, hF, -⟩; (first | (have hS := S.out.got 0 rfl hR hF) | (have hS := S.out.got 1 rfl hR hF)); simp only [List.set_cons_zero, List.set_cons_succ, Nat.reduceAdd] at hS; replace S := hid hS; clear hS hR hF)
          | (go_at_call 35; refine (r32P _ _ rb l _ _ (by first | exact S.out.rdP 0 rfl | exact S.out.rdP 1 rfl) (by omega)).mono ?_; rintro en w' ⟨rfl, hR, hF, -⟩; (first | (have hS := S.out.got 0 rfl hR hF) | (have hS := S.out.got 1 rfl hR hF)); simp only [List.set_cons_zero, List.set_cons_succ, Nat.reduceAdd] at hS; replace S := hid hS; clear hS hR hF)
          | (go_at_call 37; refine (rleftP _ _ rb l _ _ (by first | exact S.out.rdP 0 rfl | exact S.out.rdP 1 rfl)).mono ?_; rintro en w'' ⟨rfl, rfl⟩)
          | (go_at_call 36; refine (rbP _ _ rb l 8 (l.length - 8) _ _ (by first | exact S.out.rdP 0 rfl | exact S.out.rdP 1 rfl) rfl (by omega)).mono ?_; rintro en w' ⟨v, rfl, hO, hR, hF⟩; obtain ⟨sx, cx, rfl, hS⟩ := S.out.gotS 1 rfl hR hF hO (l.length - 8) (by simp); simp only [List.set_cons_zero, List.set_cons_succ] at hS; replace S := hid hS; clear hS hR hF hO))
        refine post_msg Try.results14 rfl _ (msgC V g0 g1 (quadL l 4) (.slice sx (l.length - 8) cx)) _ rfl rfl (S.out.heap 3 rfl) msg_info ?_
        have hS := S.out
        rw [show (l.drop 8).take (l.length - 8) = l.drop 8 from List.take_of_length_le (by simp)] at hS
        exact PG.out _ sx cx e1.out (hS.sub (by repeat (first | exact List.Sublist.refl _ | exact List.nil_sublist _ | apply List.Sublist.cons_cons | apply List.Sublist.cons)))
end Go.Proofs.Ytpggbbjhbklamaa
