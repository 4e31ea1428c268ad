/-
  Two packets compared, field by field.
-/
import Derived.Test.YtaecfcaeopmiaaaDoorHlp
namespace Go.Proofs.YtaecfcaeopmiaaaDoor
open Go.RowKit

def sameK (p q : Pk) (lo mo ld md : List Int) : Bool :=
  decide (p.V = q.V) && decide (p.TOS = q.TOS) && decide (p.Flow = q.Flow) && (p.sV == q.sV && p.sB == q.sB) && (p.dV == q.dV && p.dB == q.dB) && decide (p.Proto = q.Proto) && decide (p.TTL = q.TTL) && decide (p.ID = q.ID) &&
    (p.DF == q.DF) && (p.More == q.More) && (p.Frag == q.Frag) && decide (p.Off = q.Off) && decide (lo = mo) && decide (ld = md)
set_option maxHeartbeats 2000000 in
theorem sameP_any (p q : Pk) (lo mo ld md : List Int) (w : World) (hp : IsPk p) (hq : IsPk q) (h1 : Rb w p.ov lo) (h2 : Rb w q.ov mo) (h3 : Rb w p.xv ld) (h4 : Rb w q.xv md) :
    Calls Tryd.prog 15 #[.agg (pkC p), .agg (pkC q)] w (APost w (.bool (sameK p q lo mo ld md))) := by
  have L1 := hp.src.len; have L2 := hp.dst.len; have L3 := hq.src.len; have L4 := hq.dst.len
  have n1 := fun W => run_eql_addr W p.sV q.sV p.sB q.sB L1 L3
  have n2 := fun W => run_eql_addr W p.dV q.dV p.dB q.dB L2 L4
  have SO := hid (fun W (hW : Below w.heap.size w W) => sameB_any p.ov q.ov lo mo W (h1.below hW) (h2.below hW))
  have SX := hid (fun W (hW : Below w.heap.size w W) => sameB_any p.xv q.xv ld md W (h3.below hW) (h4.below hW))
  have S : Hid (Sp w ((w.alloc (.cells (pkC p) 30)).alloc (.cells (pkC q) 30)) [.blk (w.heap.size + 1) (pkC q) 30, .blk w.heap.size (pkC p) 30]) := hid (Sp.in2 ..)
  have RE := hid (show sameK p q lo mo ld md = (decide (p.V = q.V) && decide (p.TOS = q.TOS) && decide (p.Flow = q.Flow) && (p.sV == q.sV && p.sB == q.sB) && (p.dV == q.dV && p.dB == q.dB) && decide (p.Proto = q.Proto) && decide (p.TTL = q.TTL) && decide (p.ID = q.ID) &&
    (p.DF == q.DF) && (p.More == q.More) && (p.Frag == q.Frag) && decide (p.Off = q.Off) && decide (lo = mo) && decide (ld = md)) from rfl)
  generalize sameK p q lo mo ld md = r at *
  clear h1 h2 h3 h4 hp hq
  go_enter Tryd.func15, Tryd.ntmps15
  go_upto_region 1 with fail
  generalize (w.alloc _).alloc _ = w' at *
  generalize hb0 : w.heap.size = b at *
  refine wp_region_lit ?_
  simp only [List.append]
  go_wp2_with (first
    | go_skip
    | ((with_reducible show wpList _ _ _ _ _ _)
       first
       | ((with_reducible show wpList _ _ _ (⟨_, .binOp _ _ _ _ _, _, _, _, _⟩ :: _) _ _); refine wpList_cmp (by rfl) _ (by rfl) _ _ _ _ rfl _ (by go_simp; exact rfl) ?_ ?_ <;> (intro hc; (try simp only [decide_eq_true_eq, decide_eq_false_iff_not, Int.not_lt] at hc)))
       | ((with_reducible show wpList _ _ _ (⟨_, .load 27 _, _, _, _, _⟩ :: _) _ _); first | (refine wpList_load_src (by rfl) _ rfl _ _ rfl (S.out.pk 0 rfl) (by first | rfl | assumption) ?_) | (refine wpList_load_dst (by rfl) _ rfl _ _ rfl (S.out.pk 0 rfl) (by first | rfl | assumption) (by first | rfl | assumption) ?_) | (refine wpList_load_src (by rfl) _ rfl _ _ rfl (S.out.pk 1 rfl) (by first | rfl | assumption) ?_) | (refine wpList_load_dst (by rfl) _ rfl _ _ rfl (S.out.pk 1 rfl) (by first | rfl | assumption) (by first | rfl | assumption) ?_))
       | ((with_reducible show wpList _ _ _ (⟨_, .load _ _, _, _, _, _⟩ :: _) _ _); first | (refine wpList_get_pk (by rfl) _ _ rfl S.out _ _ rfl 0 _ rfl _ rfl (by rfl) (by first | rfl | assumption) (by first | rfl | assumption) ?_) | (refine wpList_get_pk (by rfl) _ _ rfl S.out _ _ rfl 1 _ rfl _ rfl (by rfl) (by first | rfl | assumption) (by first | rfl | assumption) ?_)))
    | (go_at_call 16; first
       | (refine (SO.out _ (by have := S.out.bel; rwa [hb0] at this)).mono ?_; rintro en w'' ⟨rfl, rfl⟩)
       | (refine (SX.out _ (by have := S.out.bel; rwa [hb0] at this)).mono ?_; rintro en w'' ⟨rfl, rfl⟩)))
  all_goals
    go_ret
    refine ⟨?_, S.out.bel⟩
    have hr := RE.out
    clear RE S SO SX n1 n2
    show Ending.returned (.bool _) = _
    rw [hr]
    clear hr
  all_goals first
    | (simp_all; done)
    | (generalize (p.sV == q.sV) = x1 at *
       generalize (p.sB == q.sB) = x2 at *
       generalize (p.dV == q.dV) = x3 at *
       generalize (p.dB == q.dB) = x4 at *
       cases x1 <;> cases x2 <;> cases x3 <;> cases x4 <;> simp_all)
end Go.Proofs.YtaecfcaeopmiaaaDoor
