/-
  Two packets compared, field by field.
-/
import Derived.Test.YthbdnmmmibdgpaaStr
import Derived.Test.YthbdnmmmibdgpaaPkS
namespace Go.Proofs.Ythbdnmmmibdgpaa
open Go.RowKit

def sameK (p q : Pk) (lo mo ld md : List Int) : Bool :=
  decide (p.V = q.V) && decide (p.TOS = q.TOS) && decide (p.Flow = q.Flow) && (p.sV == q.sV && p.sB == q.sB) && (p.dV == q.dV && p.dB == q.dB) && decide (p.Proto = q.Proto) && decide (p.TTL = q.TTL) && decide (p.ID = q.ID) &&
    (p.DF == q.DF) && (p.More == q.More) && (p.Frag == q.Frag) && decide (p.Off = q.Off) && decide (lo = mo) && decide (ld = md)
set_option maxHeartbeats 1000000 in
theorem samePacket6_any (p q : Pk) (lo mo ld md : List Int) (w : World) (hp : IsPk p) (hq : IsPk q) (h1 : Rb w p.ov lo) (h2 : Rb w q.ov mo) (h3 : Rb w p.xv ld) (h4 : Rb w q.xv md) :
    Calls Try.prog 21 #[.agg (pkC p), .agg (pkC q)] w (fun en w' => en = .returned (.bool (sameK p q lo mo ld md)) ∧ Below w.heap.size w w') := by
  obtain ⟨A1, A2, BW, _⟩ := bx2 w (.cells (pkC p) 28) (.cells (pkC q) 28)
  have L1 := hp.src.len; have L2 := hp.dst.len; have L3 := hq.src.len; have L4 := hq.dst.len
  have n1 := fun W => run_neq_addr W p.sV q.sV p.sB q.sB L1 L3
  have n2 := fun W => run_neq_addr W p.dV q.dV p.dB q.dB L2 L4
  go_enter Try.func21, Try.ntmps21
  go_wp2_with (first
    | go_skip
    | ((with_reducible show wpList _ _ _ (⟨some 6, _, _, _, _, _⟩ :: _) _ (World.alloc _ _))
       refine wpList_world fun w' hw2 => ?_
       rw [← hw2] at A1 A2 BW
       replace A1 : PkAt w' w.heap.size p := A1
       replace A2 : PkAt w' (w.heap.size + 1) q := A2
       clear hw2
       obtain ⟨c0, c1, c2, c3, c20, c37, c38, c39, c40, c41, c42, c43, c44, c45⟩ := A1.cells L1 L2
       obtain ⟨d0, d1, d2, d3, d20, d37, d38, d39, d40, d41, d42, d43, d44, d45⟩ := A2.cells L3 L4)
    | ((with_reducible show wpList _ _ _ _ _ _)
       first
       | ((with_reducible show wpList _ _ _ (⟨_, .binOp _ _ _ _ _, _, _, _, _⟩ :: _) _ _); refine wpList_cmp (by rfl) _ (by rfl) _ _ _ _ rfl _ (by go_simp; exact rfl) ?_ ?_ <;> (intro hc; (try simp only [decide_eq_true_eq, decide_eq_false_iff_not, Int.not_lt] at hc); go_prune))
       | (refine wpList_load_src (by rfl) _ rfl _ p rfl A1 L1 ?_)
       | (refine wpList_load_dst (by rfl) _ rfl _ p rfl A1 L1 L2 ?_)
       | (refine wpList_load_src (by rfl) _ rfl _ q rfl A2 L3 ?_)
       | (refine wpList_load_dst (by rfl) _ rfl _ q rfl A2 L3 L4 ?_))
    | (go_at_call 14; first | (refine (same6_any _ _ _ _ _ (h1.below BW) (h2.below BW)).mono ?_; rintro en w'' ⟨rfl, rfl⟩) | (refine (same6_any _ _ _ _ _ (h3.below BW) (h4.below BW)).mono ?_; rintro en w'' ⟨rfl, rfl⟩)))
  all_goals
    go_ret
    refine ⟨?_, BW⟩
    clear A1 A2 BW c0 c1 c2 c3 c20 c37 c38 c39 c40 c41 c42 c43 c44 c45 d0 d1 d2 d3 d20 d37 d38 d39 d40 d41 d42 d43 d44 d45 n1 n2
    show Ending.returned (.bool _) = _
    unfold sameK
  all_goals first
    | (simp_all; done)
    | (generalize (p.sV == q.sV) = x1 at *
       generalize (p.sB == q.sB) = x2 at *
       generalize (p.dV == q.dV) = x3 at *
       generalize (p.dB == q.dB) = x4 at *
       cases x1 <;> cases x2 <;> cases x3 <;> cases x4 <;> simp_all)
end Go.Proofs.Ythbdnmmmibdgpaa
