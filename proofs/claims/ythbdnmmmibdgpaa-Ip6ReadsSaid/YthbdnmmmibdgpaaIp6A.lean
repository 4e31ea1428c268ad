/-
  package ip6: six, Right, head, Head.
-/
import Derived.Test.YthbdnmmmibdgpaaPkt
namespace Go.Proofs.Ythbdnmmmibdgpaa
open Go.RowKit

theorem six_any (V : Int) (bs : List Int) (w : World) (h : IsA V bs) : Calls Try.prog 32 #[.agg (addrC V bs)] w (APost w (.bool (decide (V = 6)))) := by
  have H := hid h
  have A := hid (AddrAt.alloc w V bs)
  have c0 := A.out.v
  have BB := hid (bel_alloc w (.cells (addrC V bs) 24))
  have VA := hid (fun W => valid_any V bs W h)
  have VV := hid (show V = 6 → validA V bs = true from fun hv => by subst hv; rfl)
  generalize validA V bs = v at *
  clear h
  unfold addrV at *
  go_enter Try.func32, Try.ntmps32
  go_upto_region 1 with fail
  generalize w.alloc (.cells (addrC V bs) 24) = w1 at *
  go_wp2_with (first
    | go_skip
    | ((with_reducible show wpList _ _ _ _ _ _); first | ((with_reducible show wpList _ _ _ (⟨_, .binOp _ _ _ _ _, _, _, _, _⟩ :: _) _ _); refine wpList_cmp (by rfl) _ (by rfl) _ _ _ _ rfl _ (by go_simp; exact rfl) ?_ ?_ <;> (intro hc; (try simp only [decide_eq_true_eq, decide_eq_false_iff_not, Int.not_lt] at hc); go_prune)) | (refine wpList_load_addr (by rfl) _ rfl _ _ _ rfl A.out H.out.len ?_))
    | (go_at_call 45; refine (VA.out _).mono ?_; rintro en w' ⟨rfl, hb⟩; replace BB := hid (BB.out.trans (hb.mono BB.out.size)); clear hb))
  all_goals
    go_ret
    clear VA
    refine ⟨?_, BB.out⟩
    have hv := VV.out
    show Ending.returned (.bool _) = _
    simp_all
/-- may the packet be laid? (on, n: how long its options and its data are) -/
def six6 (p : Pk) (on : Nat) : Bool :=
  decide (p.V = 6) && decide (p.sV = 6) && decide (p.dV = 6) && !p.DF && decide (on = 0) && !decide (p.Proto = 44) && (decide (0 ≤ p.TOS) && decide (p.TOS ≤ 255)) && (decide (0 ≤ p.Flow) && decide (p.Flow < 1048576)) &&
    (decide (0 ≤ p.Proto) && decide (p.Proto ≤ 255)) && (decide (0 ≤ p.TTL) && decide (p.TTL ≤ 255))
def right6 (p : Pk) (on n : Nat) : Bool :=
  six6 p on && if p.Frag = true then decide (0 ≤ p.Off) && decide (p.Off % 8 = 0) && decide (n ≤ 65527) && decide (p.Off + n ≤ 65535) && (if n = 0 then decide (p.Off = 0) && !p.More else !p.More || decide (n % 8 = 0))
    else decide (p.ID = 0) && decide (p.Off = 0) && !p.More && decide (n ≤ 65535)
set_option maxHeartbeats 2000000 in
set_option maxRecDepth 20000 in
theorem right6_any (p : Pk) (os xs : List Int) (w : World) (h : Pin w p os xs) : Calls Try.prog 15 #[.agg (pkC p)] w (APost w (.bool (right6 p os.length xs.length))) := by
  obtain ⟨hp, ho, hx⟩ := h
  have H1 := hid hp.src
  have H2 := hid hp.dst
  have ID0 := hp.id0
  have ID1 := hp.id1
  obtain ⟨oa, oc, eo, hoc, hom, _⟩ := ho.open
  obtain ⟨xa, xc, ex, hxc, hxm, _⟩ := hx.open
  unfold maxLen at hom hxm
  obtain ⟨a1, bb, hz⟩ := bx1 w (.cells (pkC p) 28)
  have DD := hid (fun W (hW : Below (w.alloc (.cells (pkC p) 28)).heap.size (w.alloc (.cells (pkC p) 28)) W) => (⟨blk_bel a1 hW, PkAt.cells (blk_bel a1 hW) hp.src.len hp.dst.len, bb.trans (hW.mono bb.size)⟩ : PkAt W _ p ∧ PkCells W _ p ∧ Below w.heap.size w W))
  have B0 := hid (Below.refl (w.alloc (.cells (pkC p) 28)).heap.size (w.alloc (.cells (pkC p) 28)))
  have RE : Hid (right6 p os.length xs.length = (six6 p os.length && if p.Frag = true then decide (0 ≤ p.Off) && decide (p.Off % 8 = 0) && decide (xs.length ≤ 65527) && decide (p.Off + xs.length ≤ 65535) && (if xs.length = 0 then decide (p.Off = 0) && !p.More else !p.More || decide (xs.length % 8 = 0))
    else decide (p.ID = 0) && decide (p.Off = 0) && !p.More && decide (xs.length ≤ 65535))) := hid rfl
  generalize right6 p os.length xs.length = r at *
  generalize os.length = on at *
  generalize xs.length = n at *
  clear a1 bb hz ho hx hp
  go_enter Try.func15, Try.ntmps15
  go_upto_region 1 with fail
  generalize w.alloc (.cells (pkC p) 28) = w1 at *
  obtain ⟨A, ⟨c0, c1, c2, c3, c20, c37, c38, c39, c40, c41, c42, c43, c44, c45⟩, BW⟩ := DD.out _ B0.out; rw [eo] at c44; rw [ex] at c45; replace A := hid A; replace BW := hid BW
  have w' := w1
  go_wp2_with (first
    | go_skip
    | ((with_reducible show wpList _ _ _ _ _ _)
       first
       | ((with_reducible show wpList _ _ _ (⟨_, .binOp _ _ _ _ _, _, _, _, _⟩ :: _) _ _); refine wpList_cmp (by rfl) _ (by rfl) _ _ _ _ rfl _ (by go_simp; exact rfl) ?_ ?_ <;> (intro hc; (try simp only [decide_eq_true_eq, decide_eq_false_iff_not, Int.not_lt] at hc); go_prune))
       | (refine wpList_load_src (by rfl) _ rfl _ p rfl A.out H1.out.len ?_)
       | (refine wpList_load_dst (by rfl) _ rfl _ p rfl A.out H1.out.len H2.out.len ?_))
    | (go_at_call 32; refine (six_any _ _ _ (by first | exact H1.out | exact H2.out)).mono ?_; rintro en w' ⟨rfl, hb⟩; replace B0 := hid (B0.out.trans (hb.mono B0.out.size)); clear hb; clear A c0 c1 c2 c3 c20 c37 c38 c39 c40 c41 c42 c43 c44 c45 BW; obtain ⟨A, ⟨c0, c1, c2, c3, c20, c37, c38, c39, c40, c41, c42, c43, c44, c45⟩, BW⟩ := DD.out _ B0.out; rw [eo] at c44; rw [ex] at c45; replace A := hid A; replace BW := hid BW))
  all_goals
    go_ret
    refine ⟨?_, BW.out⟩
    have hr := RE.out
    clear RE DD A c0 c1 c2 c3 c20 c37 c38 c39 c40 c41 c42 c43 c44 c45
    show Ending.returned (.bool _) = _
    rw [hr]
    unfold six6
    congr 2
    clear hr
  all_goals first
    | (simp_all; done)
    | (simp_all; omega)
    | skip
end Go.Proofs.Ythbdnmmmibdgpaa
