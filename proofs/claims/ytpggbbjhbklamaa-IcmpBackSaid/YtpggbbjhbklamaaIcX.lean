/-
  The statements' own pair: two addresses of the version.
-/
import Derived.Test.YtpggbbjhbklamaaIcW
namespace Go.Proofs.Ytpggbbjhbklamaa
open Go.RowKit

def zpad (bs : List Int) (k : Nat) : List Int := bs.take k ++ List.replicate (16 - k) 0
theorem zpad_step {bs : List Int} {k : Nat} (hl : bs.length = 16) (hk : k < 16) : (zpad bs k).set k (gt bs k) = zpad bs (k + 1) := by
  unfold zpad
  apply List.ext_getElem?
  intro j
  rw [List.getElem?_set]
  have e1 : (bs.take k).length = k := by simp; omega
  have e2 : (bs.take (k + 1)).length = k + 1 := by simp; omega
  by_cases hj : k = j
  · subst hj
    rw [if_pos rfl, if_pos (by simp; omega), List.getElem?_append_left (by omega), List.getElem?_take, if_pos (by omega), gt_some (by omega)]
  · rw [if_neg hj]
    by_cases hlt : j < k
    · rw [List.getElem?_append_left (by omega), List.getElem?_append_left (by omega), List.getElem?_take, List.getElem?_take, if_pos hlt, if_pos (by omega)]
    · rw [List.getElem?_append_right (by omega), List.getElem?_append_right (by omega), e1, e2, List.getElem?_replicate, List.getElem?_replicate]
      by_cases h16 : j < 16
      · rw [if_pos (by omega), if_pos (by omega)]
      · rw [if_neg (by omega), if_neg (by omega)]
theorem zpad_len {bs : List Int} {k : Nat} (hl : bs.length = 16) (hk : k ≤ 16) : (zpad bs k).length = 16 := by unfold zpad; simp; omega
def pB (V : Int) (bs : List Int) : List Int := if V = 6 then bs else zpad bs 4
theorem pB_is {V U : Int} {bs : List Int} (h : IsA U bs) (hV : V = 4 ∨ V = 6) : IsA V (pB V bs) ∧ validA V (pB V bs) = true := by
  rcases hV with rfl | rfl
  · refine ⟨⟨zpad_len h.len (by decide), (h.byt.take 4).append (fun x hx => by simp at hx; omega), by decide, by decide⟩, ?_⟩
    unfold validA pB
    rw [if_pos rfl, if_neg (by decide)]
    unfold zerosB zpad
    rw [List.all_eq_true]
    intro x hx
    rw [List.drop_append] at hx
    rcases List.mem_append.1 hx with h | h
    · rw [List.drop_of_length_le (by simp; omega)] at h
      cases h
    · have := List.mem_of_mem_drop h
      simp at this
      simp [this]
  · exact ⟨⟨h.len, h.byt, by decide, by decide⟩, rfl⟩
theorem pB_pair {V U U2 : Int} {bs bs2 : List Int} (h : IsA U bs) (h2 : IsA U2 bs2) (hV : V = 4 ∨ V = 6) : pairA V (pB V bs) V (pB V bs2) = true := by
  unfold pairA
  rw [(pB_is h hV).2, (pB_is h2 hV).2]
  simp
def APair (V : Int) (A B : List Int) (w : World) (en : Ending) (w' : World) : Prop := en = .returned (.tuple #[.agg (addrC V A), .agg (addrC V B)]) ∧ Below w.heap.size w w'
theorem post_addr2 {fn : Func} {Q : Ending → World → Prop} {a : Act} {w : World} {p u : Tmp} (h : fn.results = #[.cell p 24, .cell u 24]) (hd : a.defers = []) (b c : Nat) (V U : Int) (bs cs : List Int) (hp : a.tmps.getD p undef = .pointer (some ⟨b, 0, none⟩)) (hu : a.tmps.getD u undef = .pointer (some ⟨c, 0, none⟩))
    (hA : AddrAt w b V bs) (hB : AddrAt w c U cs) (h1 : bs.length = 16) (h2 : cs.length = 16) (hR : Q (.returned (.tuple #[.agg (addrC V bs), .agg (addrC U cs)])) w) : bodyPost Try.prog fn Q .ret a w :=
  bodyPost_ret (by
    have e1 := run_loadVar_row w b 24 24 (addrC V bs) (0, 0) _ hA Try.underlying24 rfl (by rw [addr_info, addr_cells h1])
    have e2 := run_loadVar_row w c 24 24 (addrC U cs) (0, 0) _ hB Try.underlying24 rfl (by rw [addr_info, addr_cells h2])
    have hp' : a.tmps[p]?.getD undef = .pointer (some ⟨b, 0, none⟩) := by simpa using hp
    have hu' : a.tmps[u]?.getD undef = .pointer (some ⟨c, 0, none⟩) := by simpa using hu
    simp only [results, h]
    simp [Sem.run_bind, hp', hu', asAddr, e1, e2]) hd hR
theorem addr_at {V : Int} {bs : List Int} {k : Nat} (hk : k < bs.length) : (addrC V bs)[1 + k]? = some (.int .u8 (gt bs k)) := by
  rw [Nat.add_comm]
  exact addrC_s hk
theorem wpList_put_ab {w0 w : World} {ops : Array Oper} {rest : List Oper} {o : Oper} {a : Act} {Q : Exit → Act → World → Prop} {L : List Res} (hgd : o.guard = none) (x y : Operand) (ho : o.op = .store 5 x y) (hd : o.dst = none) (S : Sp w0 w L)
    (b k : Nat) (hx : a.eval x = .pointer (some ⟨b, 1 + k, none⟩)) (z : Int) (hy : a.eval y = .int .u8 z) (i : Nat) (V : Int) (bs : List Int) (hi : L[i]? = some (.blk b (addrC V bs) 24)) (hk : k < bs.length)
    (h : ∀ w2, Sp w0 w2 (L.set i (.blk b (addrC V (bs.set k z)) 24)) → wpList Try.prog ops Q rest a w2) : wpList Try.prog ops Q (o :: rest) a w := by
  refine wpList_store_rng hgd 5 x y ho hd b (1 + k) (.int .u8 z) hx hy [.int .u8 z] rfl (by simp; rfl) 24 (addrC V bs) (S.heap i hi) u8_info1 (by simp [addrC, bts_length]; omega) fun w2 k1 k2 => h w2 (S.put i hi k2 ?_)
  rw [k1]
  have e1 : (addrC V bs).toList = .int .i64 V :: bts bs := rfl
  have e2 : (Value.int .i64 V :: bts bs).take (1 + k) ++ [Value.int .u8 z] ++ (Value.int .i64 V :: bts bs).drop (1 + k + 1) = (Value.int .i64 V :: bts bs).set (1 + k) (.int .u8 z) := by
    rw [List.set_eq_take_append_cons_drop, if_pos (by simp [bts_length]; omega)]
    simp
  rw [e1]
  simp only [List.length_singleton]
  rw [e2, Nat.add_comm 1 k, List.set_cons_succ]
  simp [addrC, bts]
set_option maxHeartbeats 1000000 in
set_option maxRecDepth 20000 in
theorem pair8_any (V Va Vb : Int) (bs bs2 : List Int) (w : World) (h : IsA Va bs) (h2 : IsA Vb bs2) (hV : V = 4 ∨ V = 6) : Calls Try.prog 18 #[.int .i64 V, .agg (addrC Va bs), .agg (addrC Vb bs2)] w (APair V (pB V bs) (pB V bs2) w) := by
  have L1 := h.len
  have L2 := h2.len
  have z1 : (zpad bs 0).length = 16 := zpad_len L1 (by decide)
  have z2 : (zpad bs2 0).length = 16 := zpad_len L2 (by decide)
  have S : Hid (Sp w ((((w.alloc (.cells (addrC Va bs) 24)).alloc (.cells (addrC Vb bs2) 24)).alloc (.cells #[.int .i64 0, .int .u8 0, .int .u8 0, .int .u8 0, .int .u8 0, .int .u8 0, .int .u8 0, .int .u8 0, .int .u8 0, .int .u8 0, .int .u8 0, .int .u8 0, .int .u8 0, .int .u8 0, .int .u8 0, .int .u8 0, .int .u8 0] 24)).alloc (.cells #[.int .i64 0, .int .u8 0, .int .u8 0, .int .u8 0, .int .u8 0, .int .u8 0, .int .u8 0, .int .u8 0, .int .u8 0, .int .u8 0, .int .u8 0, .int .u8 0, .int .u8 0, .int .u8 0, .int .u8 0, .int .u8 0, .int .u8 0] 24)) [.blk (w.heap.size + 3) #[.int .i64 0, .int .u8 0, .int .u8 0, .int .u8 0, .int .u8 0, .int .u8 0, .int .u8 0, .int .u8 0, .int .u8 0, .int .u8 0, .int .u8 0, .int .u8 0, .int .u8 0, .int .u8 0, .int .u8 0, .int .u8 0, .int .u8 0] 24, .blk (w.heap.size + 2) #[.int .i64 0, .int .u8 0, .int .u8 0, .int .u8 0, .int .u8 0, .int .u8 0, .int .u8 0, .int .u8 0, .int .u8 0, .int .u8 0, .int .u8 0, .int .u8 0, .int .u8 0, .int .u8 0, .int .u8 0, .int .u8 0, .int .u8 0] 24, .blk (w.heap.size + 1) (addrC Vb bs2) 24, .blk w.heap.size (addrC Va bs) 24]) := hid (Sp.in4 ..)
  have P := hid (fun w' (hS : Sp w w' []) => (show APair V (pB V bs) (pB V bs2) w (.returned (.tuple #[.agg (addrC V (pB V bs)), .agg (addrC V (pB V bs2))])) w' from ⟨rfl, hS.bel⟩))
  clear h h2
  go_enter Try.func18, Try.ntmps18
  go_upto_region 1 with fail
  generalize (((w.alloc (.cells (addrC Va bs) 24)).alloc (.cells (addrC Vb bs2) 24)).alloc _).alloc _ = w' at *
  generalize w.heap.size = b at *
  go_upto_region 2 with (first
    | go_skip
    | (((with_reducible show wpList _ _ _ (_ :: _) _ (World.alloc _ _)); refine wpList_world fun w' hw2 => ?_; replace S := hid (S.out.alloc hw2); clear hw2))
    | ((with_reducible show wpList _ _ _ _ _ _); ((with_reducible show wpList _ _ _ (⟨_, .store _ _ _, _, _, _, _⟩ :: _) _ _); first | (refine wpList_putS (by rfl) _ _ _ rfl rfl S.out _ (addrC 4 (zpad bs 0)) rfl rfl 0 24 _ rfl (by rw [addr_info]; exact congrArg some (addr_cells z1).symm) (by rfl) (addrC_one _ _) ?_; intro w' hS; simp only [List.set] at hS; replace S := hid hS; clear hS))))
  (try simp only [Act.put, List.setIfInBounds_toArray, List.set_cons_zero, List.set_cons_succ])
  generalize (World.heap _).size = b8 at S ⊢
  go_upto_region 3 with (first
    | go_skip
    | (((with_reducible show wpList _ _ _ (_ :: _) _ (World.alloc _ _)); refine wpList_world fun w' hw2 => ?_; replace S := hid (S.out.alloc hw2); clear hw2))
    | ((with_reducible show wpList _ _ _ _ _ _); ((with_reducible show wpList _ _ _ (⟨_, .store _ _ _, _, _, _, _⟩ :: _) _ _); first | (refine wpList_putS (by rfl) _ _ _ rfl rfl S.out _ (addrC 4 (zpad bs 0)) rfl rfl 0 24 _ rfl (by rw [addr_info]; exact congrArg some (addr_cells z1).symm) (by rfl) (addrC_one _ _) ?_; intro w' hS; simp only [List.set] at hS; replace S := hid hS; clear hS))))
  (try simp only [Act.put, List.setIfInBounds_toArray, List.set_cons_zero, List.set_cons_succ])
  generalize (World.heap _).size = b9 at S ⊢
  rcases hV with rfl | rfl
  · have e1 : pB 4 bs = zpad bs 4 := rfl
    have e2 : pB 4 bs2 = zpad bs2 4 := rfl
    rw [e1, e2] at P
    go_upto_region 10 with fail
    go_loopw [10] (fun v wr => ∃ k : Nat, k ≤ 4 ∧ v = .int .i64 (k : Int) ∧ Sp w wr [.blk b9 (addrC 4 (zpad bs2 k)) 24, .blk b8 (addrC 4 (zpad bs k)) 24, .blk (b + 3) #[.int .i64 0, .int .u8 0, .int .u8 0, .int .u8 0, .int .u8 0, .int .u8 0, .int .u8 0, .int .u8 0, .int .u8 0, .int .u8 0, .int .u8 0, .int .u8 0, .int .u8 0, .int .u8 0, .int .u8 0, .int .u8 0, .int .u8 0] 24, .blk (b + 2) #[.int .i64 0, .int .u8 0, .int .u8 0, .int .u8 0, .int .u8 0, .int .u8 0, .int .u8 0, .int .u8 0, .int .u8 0, .int .u8 0, .int .u8 0, .int .u8 0, .int .u8 0, .int .u8 0, .int .u8 0, .int .u8 0, .int .u8 0] 24, .blk (b + 1) (addrC Vb bs2) 24, .blk b (addrC Va bs) 24]) (fun v _ => (4 - intOf v).toNat)
    · exact ⟨0, by omega, rfl, S.out⟩
    · obtain ⟨k, hk, rfl, hS⟩ := hrel
      replace S := hid hS
      clear hS
      have w' := wr
      by_cases hlt : k < 4
      · have F1 := hid (zpad_step (bs := bs) (k := k) L1 (by omega))
        have F2 := hid (zpad_step (bs := bs2) (k := k) L2 (by omega))
        have y3 : IntKind.i64.wrap ((k : Int) + 1) = ((k + 1 : Nat) : Int) := by rw [IntWalk.i64_in _ (by omega)]; omega
        have d1 : decide ((k : Int) < 4) = true := by simp; omega
        have h16 : (k : Int) < 16 := by omega
        have z8 : (zpad bs k).length = 16 := zpad_len L1 (by omega)
        have z9 : (zpad bs2 k).length = 16 := zpad_len L2 (by omega)
        go_wp2_with (first
          | go_skip
          | ((with_reducible show wpList _ _ _ _ _ _); first
              | ((with_reducible show wpList _ _ _ (⟨_, .load _ _, _, _, _, _⟩ :: _) _ _); refine wpList_load_one (by rfl) 5 _ rfl _ _ rfl _ (S.out.cellC 5 rfl (addr_at (k := k) (by omega))) (by kernel_rfl) ?_)
              | ((with_reducible show wpList _ _ _ (⟨_, .load _ _, _, _, _, _⟩ :: _) _ _); refine wpList_load_one (by rfl) 5 _ rfl _ _ rfl _ (S.out.cellC 4 rfl (addr_at (k := k) (by omega))) (by kernel_rfl) ?_)
              | ((with_reducible show wpList _ _ _ (⟨_, .store _ _ _, _, _, _, _⟩ :: _) _ _); refine wpList_put_ab (by rfl) _ _ rfl rfl S.out _ k rfl _ rfl 1 _ _ rfl (by omega) ?_; intro w' hS; simp only [List.set] at hS; replace S := hid hS; clear hS)
              | ((with_reducible show wpList _ _ _ (⟨_, .store _ _ _, _, _, _, _⟩ :: _) _ _); refine wpList_put_ab (by rfl) _ _ rfl rfl S.out _ k rfl _ rfl 0 _ _ rfl (by omega) ?_; intro w' hS; simp only [List.set] at hS; replace S := hid hS; clear hS)))
        go_roundw
        case rel =>
          refine ⟨k + 1, by omega, ?_, by have := S.out; simp only [F1.out, F2.out] at this; exact this⟩
          first | rfl | (simp; done)
        case measure => simp [intOf]; omega
      · obtain rfl : k = 4 := by omega
        have d1 : decide (((4 : Nat) : Int) < 4) = false := by decide
        have z8 : (zpad bs 4).length = 16 := zpad_len L1 (by decide)
        have z9 : (zpad bs2 4).length = 16 := zpad_len L2 (by decide)
        go_upto_region 14 with fail
        refine wp_region_canon ((0, false) :: (1, false) :: (2, true) :: (3, true) :: []) (fun W => Sp w W [.blk b9 (addrC 4 (zpad bs2 4)) 24, .blk b8 (addrC 4 (zpad bs 4)) 24]) (by kernel_rfl) (by kernel_rfl) (fun c a d v w h => by cases d <;> exact h) ?_ ?_
        · exact (S.out.same (Same.drew _)).sub (by repeat (first | exact List.Sublist.refl _ | exact List.nil_sublist _ | apply List.Sublist.cons_cons | apply List.Sublist.cons))
        simp only [pick, List.getElem?_cons_succ, List.getElem?_cons_zero]
        replace S := hid (S.out.same (Same.drew wr))
        clear w'
        generalize wr.drew = w' at *
        refine wpD_load_addr (by rfl) _ rfl _ _ _ rfl (fun _ hS => hS.heap 1 rfl) z8 ?_
        refine wpD_load_addr (by rfl) _ rfl _ _ _ rfl (fun _ hS => hS.heap 0 rfl) z9 ?_
        repeat (first
          | ((with_reducible show wpD _ _ _ _ _ _ _); refine wpD_strongL (by rfl) ?_)
          | ((with_reducible show wpList _ _ _ _ _ _); go_wp2_with (first
              | go_skip
              | ((with_reducible show wpList _ _ _ _ _ _); ((with_reducible show wpList _ _ _ (⟨_, .store _ _ _, _, _, _, _⟩ :: _) _ _); first | (refine wpList_putS (by rfl) _ _ _ rfl rfl S.out _ (addrC 4 (zpad bs 4)) rfl rfl 3 24 _ rfl (by rw [addr_info]; exact congrArg some (addr_cells z8).symm) (by simp [addrC, bts_length, z8]) (addrC_one _ _) ?_; intro w' hS; simp only [List.set] at hS; replace S := hid hS; clear hS) | (refine wpList_putS (by rfl) _ _ _ rfl rfl S.out _ (addrC 4 (zpad bs2 4)) rfl rfl 2 24 _ rfl (by rw [addr_info]; exact congrArg some (addr_cells z9).symm) (by simp [addrC, bts_length, z9]) (addrC_one _ _) ?_; intro w' hS; simp only [List.set] at hS; replace S := hid hS; clear hS)))))
          | ((with_reducible show qEnd _ _ _ _ _); refine qEnd_done (S.out.sub (by repeat (first | exact List.Sublist.refl _ | exact List.nil_sublist _ | apply List.Sublist.cons_cons | apply List.Sublist.cons))) ?_; (try simp only [Act.put, List.setIfInBounds_toArray, List.set_cons_zero, List.set_cons_succ]))
          | ((with_reducible show wpD _ _ _ _ _ _ _); refine wpD_nil ?_))
        go_wp2_with fail
        refine post_addr2 Try.results18 rfl _ _ _ _ _ _ rfl rfl (S.out.heap 3 rfl) (S.out.heap 2 rfl) z8 z9 ?_
        exact P.out _ S.out.nil
  · have e1 : pB 6 bs = bs := rfl
    have e2 : pB 6 bs2 = bs2 := rfl
    rw [e1, e2] at P
    go_upto_region 8 with (first
      | go_skip
      | ((with_reducible show wpList _ _ _ _ _ _); first
          | ((with_reducible show wpList _ _ _ (⟨_, .load 24 _, _, _, _, _⟩ :: _) _ _); first | (refine wpList_getS (by rfl) _ _ rfl S.out _ rfl 0 _ _ rfl _ (by rfl) Try.underlying24 (by rw [addr_info]; exact congrArg some (addr_cells (by first | rfl | assumption)).symm) ?_) | (refine wpList_getS (by rfl) _ _ rfl S.out _ rfl 1 _ _ rfl _ (by rfl) Try.underlying24 (by rw [addr_info]; exact congrArg some (addr_cells (by first | rfl | assumption)).symm) ?_) | (refine wpList_getS (by rfl) _ _ rfl S.out _ rfl 2 _ _ rfl _ (by rfl) Try.underlying24 (by rw [addr_info]; exact congrArg some (addr_cells (by first | rfl | assumption)).symm) ?_) | (refine wpList_getS (by rfl) _ _ rfl S.out _ rfl 3 _ _ rfl _ (by rfl) Try.underlying24 (by rw [addr_info]; exact congrArg some (addr_cells (by first | rfl | assumption)).symm) ?_) | (refine wpList_getS (by rfl) _ _ rfl S.out _ rfl 4 _ _ rfl _ (by rfl) Try.underlying24 (by rw [addr_info]; exact congrArg some (addr_cells (by first | rfl | assumption)).symm) ?_) | (refine wpList_getS (by rfl) _ _ rfl S.out _ rfl 5 _ _ rfl _ (by rfl) Try.underlying24 (by rw [addr_info]; exact congrArg some (addr_cells (by first | rfl | assumption)).symm) ?_))
          | ((with_reducible show wpList _ _ _ (⟨_, .store _ _ _, _, _, _, _⟩ :: _) _ _); first
              | (refine wpList_putS (by rfl) _ _ _ rfl rfl S.out _ (addrC Va bs) rfl rfl 1 24 _ rfl (by rw [addr_info]; exact congrArg some (addr_cells L1).symm) (by simp [addrC, bts_length, L1, z1]) (addrC_one _ _) ?_; intro w' hS; simp only [List.set] at hS; replace S := hid hS; clear hS)
              | (refine wpList_putS (by rfl) _ _ _ rfl rfl S.out _ (addrC Vb bs2) rfl rfl 0 24 _ rfl (by rw [addr_info]; exact congrArg some (addr_cells L2).symm) (by simp [addrC, bts_length, L2, z1]) (addrC_one _ _) ?_; intro w' hS; simp only [List.set] at hS; replace S := hid hS; clear hS)
              | (refine wpList_putC (by rfl) _ _ _ rfl rfl S.out _ _ rfl 1 (.int .i64 Va :: bts bs) 24 rfl _ rfl rfl rfl (by rfl) (by simp) ?_; intro w' hS; simp only [List.set] at hS; replace S := hid hS; clear hS)
              | (refine wpList_putC (by rfl) _ _ _ rfl rfl S.out _ _ rfl 0 (.int .i64 Vb :: bts bs2) 24 rfl _ rfl rfl rfl (by rfl) (by simp) ?_; intro w' hS; simp only [List.set] at hS; replace S := hid hS; clear hS))))
    replace S := hid (show Sp w w' [.blk b9 (addrC 6 bs2) 24, .blk b8 (addrC 6 bs) 24, .blk (b + 3) #[.int .i64 0, .int .u8 0, .int .u8 0, .int .u8 0, .int .u8 0, .int .u8 0, .int .u8 0, .int .u8 0, .int .u8 0, .int .u8 0, .int .u8 0, .int .u8 0, .int .u8 0, .int .u8 0, .int .u8 0, .int .u8 0, .int .u8 0] 24, .blk (b + 2) #[.int .i64 0, .int .u8 0, .int .u8 0, .int .u8 0, .int .u8 0, .int .u8 0, .int .u8 0, .int .u8 0, .int .u8 0, .int .u8 0, .int .u8 0, .int .u8 0, .int .u8 0, .int .u8 0, .int .u8 0, .int .u8 0, .int .u8 0] 24, .blk (b + 1) (addrC Vb bs2) 24, .blk b (addrC Va bs) 24] from S.out)
    refine wp_region_canon ((0, false) :: (1, false) :: (2, true) :: (3, true) :: []) (fun W => Sp w W [.blk b9 (addrC 6 bs2) 24, .blk b8 (addrC 6 bs) 24]) (by kernel_rfl) (by kernel_rfl) (fun c a d v w h => by cases d <;> exact h) ?_ ?_
    · exact (S.out.same (Same.drew _)).sub (by repeat (first | exact List.Sublist.refl _ | exact List.nil_sublist _ | apply List.Sublist.cons_cons | apply List.Sublist.cons))
    simp only [pick, List.getElem?_cons_succ, List.getElem?_cons_zero]
    replace S := hid (S.out.same (Same.drew w'))
    generalize w'.drew = w' at *
    refine wpD_load_addr (by rfl) _ rfl _ _ _ rfl (fun _ hS => hS.heap 1 rfl) L1 ?_
    refine wpD_load_addr (by rfl) _ rfl _ _ _ rfl (fun _ hS => hS.heap 0 rfl) L2 ?_
    repeat (first
      | ((with_reducible show wpD _ _ _ _ _ _ _); refine wpD_strongL (by rfl) ?_)
      | ((with_reducible show wpList _ _ _ _ _ _); go_wp2_with (first
          | go_skip
          | ((with_reducible show wpList _ _ _ _ _ _); ((with_reducible show wpList _ _ _ (⟨_, .store _ _ _, _, _, _, _⟩ :: _) _ _); first | (refine wpList_putS (by rfl) _ _ _ rfl rfl S.out _ (addrC 6 bs) rfl rfl 3 24 _ rfl (by rw [addr_info]; exact congrArg some (addr_cells L1).symm) (by simp [addrC, bts_length, L1]) (addrC_one _ _) ?_; intro w' hS; simp only [List.set] at hS; replace S := hid hS; clear hS) | (refine wpList_putS (by rfl) _ _ _ rfl rfl S.out _ (addrC 6 bs2) rfl rfl 2 24 _ rfl (by rw [addr_info]; exact congrArg some (addr_cells L2).symm) (by simp [addrC, bts_length, L2]) (addrC_one _ _) ?_; intro w' hS; simp only [List.set] at hS; replace S := hid hS; clear hS)))))
      | ((with_reducible show qEnd _ _ _ _ _); refine qEnd_done (S.out.sub (by repeat (first | exact List.Sublist.refl _ | exact List.nil_sublist _ | apply List.Sublist.cons_cons | apply List.Sublist.cons))) ?_; (try simp only [Act.put, List.setIfInBounds_toArray, List.set_cons_zero, List.set_cons_succ]))
      | ((with_reducible show wpD _ _ _ _ _ _ _); refine wpD_nil ?_))
    go_wp2_with fail
    refine post_addr2 Try.results18 rfl _ _ _ _ _ _ rfl rfl (S.out.heap 3 rfl) (S.out.heap 2 rfl) L1 L2 ?_
    exact P.out _ S.out.nil
end Go.Proofs.Ytpggbbjhbklamaa
