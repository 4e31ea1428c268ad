/-
  The statements of package udp: dgram.
-/
import Derived.Test.YtpiafmnfneefiaaUdpT
namespace Go.Proofs.Ytpiafmnfneefiaa
open Go.RowKit

def dmMax (six : Bool) : Nat := if six = true then 65527 else 65507
def dmN (six : Bool) (n : Nat) : Nat := if n < dmMax six then n else dmMax six
theorem dmN_le (six : Bool) (n : Nat) : dmN six n ≤ n ∧ (dmN six n : Int) ≤ mostV (adV six) ∧ dmN six n ≤ 65527 := by
  unfold dmN dmMax mostV adV
  cases six <;> simp <;> split <;> omega
theorem slice_h {ad : Option Go.Addr} {n cd m : Nat} (hm : m ≤ cd) (x : Int) (hx : x = m) (W : World) : Sem.run Try.prog (Instr.slice 33 (.slice ad n cd) none (some (.int .i64 x)) none) W = .ok (.slice ad m cd) W := by
  obtain ⟨i0, hi, hz0, hz1, hz2⟩ := info_parts Try.info5
  exact run_slice_h_sub (P := Try.prog) 33 5 Try.underlying33 hi hz1 ad n cd .i64 x m hx hm W
set_option maxHeartbeats 2000000 in
set_option maxRecDepth 20000 in
theorem dgram_any (sp dp : Int) (ns : Bool) (ad : Option Go.Addr) (cd n : Nat) (six : Bool) (w : World) (hcd : n ≤ cd) (hmd : cd ≤ 9223372036854775807) :
    Calls Try.prog 20 #[.agg #[.int .i64 sp, .int .i64 dp, .bool ns, .slice ad n cd], .bool six] w (APost w (.agg #[.int .i64 (sp % 65536), .int .i64 (dp % 65536), .bool (ns && !six), .slice ad (dmN six n) cd])) := by
  obtain ⟨a1, a2, bb, hz⟩ := bx2 w (.cells #[.int .i64 sp, .int .i64 dp, .bool ns, .slice ad n cd] 35) (.cells #[.int .i64 0, .int .i64 0, .bool false, .slice none 0 0] 35)
  have K1 := hid a1
  have K2 := hid a2
  have BB := hid bb
  have HZ := hid hz
  have hmN : (n < dmMax six ∧ dmN six n = n) ∨ (dmMax six ≤ n ∧ dmN six n = dmMax six) := by
    unfold dmN; split
    · exact Or.inl ⟨by assumption, rfl⟩
    · exact Or.inr ⟨by omega, rfl⟩
  have RS := hid (fun x W => rest_any x 65535 W (by decide) (by decide))
  have hns : ns = true ∨ ns = false := by cases ns <;> simp
  clear a1 a2 bb hz
  unfold dmMax at hmN
  rcases hmN with ⟨hlt, hm⟩ | ⟨hlt, hm⟩ <;> cases six <;> rcases hns with rfl | rfl
  all_goals
    simp only [Bool.false_eq_true, if_false, if_true] at hlt hm
    rw [hm]
    clear hm
    have hsl : ∀ W, Sem.run Try.prog (Instr.slice 33 (.slice ad n cd) none (some (.int .i64 n)) none) W = .ok (.slice ad n cd) W := fun W => slice_h hcd n rfl W
    have hs1 : Hid (65527 ≤ n → ∀ W, Sem.run Try.prog (Instr.slice 33 (.slice ad n cd) none (some (.int .i64 65527)) none) W = .ok (.slice ad 65527 cd) W) := hid fun h W => slice_h (m := 65527) (by omega) 65527 rfl W
    have hs2 : Hid (65507 ≤ n → ∀ W, Sem.run Try.prog (Instr.slice 33 (.slice ad n cd) none (some (.int .i64 65507)) none) W = .ok (.slice ad 65507 cd) W) := hid fun h W => slice_h (m := 65507) (by omega) 65507 rfl W
    (try have hs3 := hs1.out hlt)
    (try have hs4 := hs2.out hlt)
    go_enter Try.func20, Try.ntmps20
    go_upto_region 1 with fail
    generalize ((w.alloc (.cells #[.int .i64 sp, .int .i64 dp, .bool _, .slice ad n cd] 35)).alloc (.cells #[.int .i64 0, .int .i64 0, .bool false, .slice none 0 0] 35)) = w1 at *
    obtain ⟨d0, d1, d2, d3⟩ := cells4 K1.out
    go_upto_region 5 with fail
    clear d0 d1 d2 d3
    have DC := hid (fun W (hW : Below (w.heap.size + 1) w1 W) => cells4 ((hW.block w.heap.size (by omega)).trans K1.out))
    refine wp_region_canon ((0, false) :: (1, false) :: (3, false) :: (4, false) :: (6, false) :: (7, false) :: (12, false) :: (13, false) :: (14, false) :: (15, false) :: (2, true) :: (5, true) :: (8, false) :: (9, false) :: (10, false) :: (11, false) :: (16, false) :: (17, true) :: []) (fun W => Below (w.heap.size + 1) w1 W) (by kernel_rfl) (by kernel_rfl) (fun c a d v w h => by cases d <;> exact h) ?_ ?_
    · exact (Same.drew _).below _
    simp only [pick, List.getElem?_cons_succ, List.getElem?_cons_zero]
    (repeat (first | (refine wpD_weak (by rfl) ?_; apply Exists.intro; refine ⟨fun wS hS => ?_, ?_⟩; (focus (obtain ⟨c0, c1, c2, c3⟩ := DC.out _ hS; go_simp; (try with_reducible rfl); done)); simp only [Act.put, List.setIfInBounds_toArray, List.set_cons_zero, List.set_cons_succ]) | (refine wpD_pass (by rfl) ?_; simp only [Act.put, List.setIfInBounds_toArray, List.set_cons_zero, List.set_cons_succ])))
    (refine wpD_strong (by rfl) (fun K hK => ?_); go_simp)
    refine (RS.out _ _).mono ?_
    rintro en w' ⟨rfl, rfl⟩
    (refine hK _ _ (by exact (Same.drew _).below _) ?_; clear hK K; (try simp only [Act.put, List.setIfInBounds_toArray, List.set_cons_zero, List.set_cons_succ]))
    (repeat (first | (refine wpD_weak (by rfl) ?_; apply Exists.intro; refine ⟨fun wS hS => ?_, ?_⟩; (focus (obtain ⟨c0, c1, c2, c3⟩ := DC.out _ hS; go_simp; (try with_reducible rfl); done)); simp only [Act.put, List.setIfInBounds_toArray, List.set_cons_zero, List.set_cons_succ]) | (refine wpD_pass (by rfl) ?_; simp only [Act.put, List.setIfInBounds_toArray, List.set_cons_zero, List.set_cons_succ])))
    (refine wpD_strong (by rfl) (fun K hK => ?_); go_simp)
    refine (RS.out _ _).mono ?_
    rintro en w' ⟨rfl, rfl⟩
    (refine hK _ _ (by exact (Same.drew _).below _) ?_; clear hK K; (try simp only [Act.put, List.setIfInBounds_toArray, List.set_cons_zero, List.set_cons_succ]))
    (repeat (first | (refine wpD_weak (by rfl) ?_; apply Exists.intro; refine ⟨fun wS hS => ?_, ?_⟩; (focus (obtain ⟨c0, c1, c2, c3⟩ := DC.out _ hS; go_simp; (try with_reducible rfl); done)); simp only [Act.put, List.setIfInBounds_toArray, List.set_cons_zero, List.set_cons_succ]) | (refine wpD_pass (by rfl) ?_; simp only [Act.put, List.setIfInBounds_toArray, List.set_cons_zero, List.set_cons_succ])))
    have K2d : w1.drew.heap[w.heap.size + 1]? = some (.cells #[.int .i64 0, .int .i64 0, .bool false, .slice none 0 0] 35 (0, 0)) := K2.out
    have B0 := hid (show Below (w.heap.size + 1) w1 w1.drew from (Same.drew _).below _)
    have BD := hid (show Below w.heap.size w w1.drew from BB.out.trans ((Same.drew _).below _))
    have hzd : w1.drew.heap.size = w.heap.size + 2 := HZ.out
    obtain ⟨k0, k1, k2, k3⟩ := cells4 K2d
    obtain ⟨f0, f1, f2, f3⟩ := frozen4 K2d
    clear K2d
    generalize w1.drew = w' at *
    (refine wpD_strong (by rfl) (fun K hK => ?_); go_simp)
    (refine hK _ _ (by exact (((B0.out.setCell (by simp) _).setCell (by simp) _).setCell (by simp) _).setCell (by simp) _) ?_; clear hK K; (try simp only [Act.put, List.setIfInBounds_toArray, List.set_cons_zero, List.set_cons_succ]))
    refine wpD_nil ?_
    go_wp2_with fail
    first
    | exact bodyPost_ret (v := .agg #[.int .i64 (sp % 65536), .int .i64 (dp % 65536), .bool true, .slice ad n cd]) (by simp [results, Try.results20, go_sem, k0, k1, k2, k3]) rfl ⟨rfl, (((BD.out.setCell (by simp) _).setCell (by simp) _).setCell (by simp) _).setCell (by simp) _⟩
    | exact bodyPost_ret (v := .agg #[.int .i64 (sp % 65536), .int .i64 (dp % 65536), .bool false, .slice ad n cd]) (by simp [results, Try.results20, go_sem, k0, k1, k2, k3]) rfl ⟨rfl, (((BD.out.setCell (by simp) _).setCell (by simp) _).setCell (by simp) _).setCell (by simp) _⟩
    | exact bodyPost_ret (v := .agg #[.int .i64 (sp % 65536), .int .i64 (dp % 65536), .bool true, .slice ad 65507 cd]) (by simp [results, Try.results20, go_sem, k0, k1, k2, k3]) rfl ⟨rfl, (((BD.out.setCell (by simp) _).setCell (by simp) _).setCell (by simp) _).setCell (by simp) _⟩
    | exact bodyPost_ret (v := .agg #[.int .i64 (sp % 65536), .int .i64 (dp % 65536), .bool false, .slice ad 65507 cd]) (by simp [results, Try.results20, go_sem, k0, k1, k2, k3]) rfl ⟨rfl, (((BD.out.setCell (by simp) _).setCell (by simp) _).setCell (by simp) _).setCell (by simp) _⟩
    | exact bodyPost_ret (v := .agg #[.int .i64 (sp % 65536), .int .i64 (dp % 65536), .bool false, .slice ad 65527 cd]) (by simp [results, Try.results20, go_sem, k0, k1, k2, k3]) rfl ⟨rfl, (((BD.out.setCell (by simp) _).setCell (by simp) _).setCell (by simp) _).setCell (by simp) _⟩
end Go.Proofs.Ytpiafmnfneefiaa
