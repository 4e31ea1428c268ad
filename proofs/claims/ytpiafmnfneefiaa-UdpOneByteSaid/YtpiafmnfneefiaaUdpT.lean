/-
  The statements of package udp: rest, address, dgram.
-/
import Derived.Test.YtpiafmnfneefiaaUdpQ
import Derived.Test.YtpiafmnfneefiaaBlk
namespace Go.Proofs.Ytpiafmnfneefiaa
open Go.RowKit

theorem tmod_facts (n m : Int) (hm : 0 < m) : (-m < n.tmod m ∧ n.tmod m < m) ∧ (0 ≤ n.tmod m → n % m = n.tmod m) ∧ (n.tmod m < 0 → n % m = n.tmod m + m) := by
  have e := Int.tmod_add_mul_tdiv n m
  have b1 := Int.tmod_lt_of_pos n hm
  have b2 : -m < n.tmod m := by
    have := Int.tmod_lt_of_pos (-n) hm
    rw [Int.neg_tmod] at this
    omega
  have key : n % m = n.tmod m % m := by
    conv => lhs; rw [← e]
    rw [Int.add_mul_emod_self_left]
  refine ⟨⟨b2, b1⟩, fun h => ?_, fun h => ?_⟩
  · rw [key, Int.emod_eq_of_lt h b1]
  · rw [key, ← Int.add_emod_right, Int.emod_eq_of_lt (by omega) (by omega)]
theorem rest_any (n most : Int) (w : World) (h0 : 0 ≤ most) (h1 : most ≤ 1000000) : Calls Try.prog 23 #[.int .i64 n, .int .i64 most] w fun en w' => en = .returned (.int .i64 (n % (most + 1))) ∧ w = w' := by
  have e := hid (tmod_facts n (most + 1) (by omega))
  have eb := e.out.1
  generalize n % (most + 1) = r at *
  generalize ht : n.tmod (most + 1) = t at *
  go_enter Try.func23, Try.ntmps23
  go_wp2_with (first | go_skip | ((with_reducible show wpList _ _ _ _ _ _); first | (refine wpList_cmp (by rfl) _ (by rfl) _ _ _ _ rfl _ (by go_simp; exact rfl) ?_ ?_ <;> (intro hc; (try simp only [decide_eq_true_eq, decide_eq_false_iff_not, Int.not_lt] at hc); go_prune))))
  all_goals
    go_ret
    refine ⟨?_, rfl⟩
    have e1 := e.out.2
    first
    | (rw [e1.1 (by assumption)]; rfl)
    | (rw [e1.2 (by assumption)]; show Ending.returned (.int .i64 (t + most + 1)) = _; congr 2; omega)
/-! ### address -/
def adV (six : Bool) : Int := if six = true then 6 else 4
def adL (six : Bool) (bs : List Int) : List Int := if six = true then bs else bs.take 4 ++ List.replicate 12 0
theorem ad_is (six : Bool) {V : Int} {bs : List Int} (h : IsA V bs) : IsA (adV six) (adL six bs) := by
  unfold adV adL
  cases six
  · refine ⟨by simp [h.len], (h.byt.take 4).append (fun x hx => by simp at hx; omega), by decide, by decide⟩
  · exact ⟨h.len, h.byt, by decide, by decide⟩
theorem ad_valid (six : Bool) (bs : List Int) : validA (adV six) (adL six bs) = true := by
  unfold validA adV adL
  cases six
  · simp only [Bool.false_eq_true, if_false, if_true]
    unfold zerosB
    rw [List.all_eq_true]
    intro x hx
    rw [List.drop_append] at hx
    rcases List.mem_append.1 hx with h | h
    · rw [List.drop_of_length_le (by simp; omega)] at h
      cases h
    · have := List.mem_of_mem_drop h
      simp at this
      simp [this]
  · simp
theorem ad_pair (six : Bool) (bs bs2 : List Int) : pairA (adV six) (adL six bs) (adV six) (adL six bs2) = true := by
  unfold pairA
  rw [ad_valid, ad_valid]
  simp
def zpad (bs : List Int) (k : Nat) : List Int := bs.take k ++ List.replicate (16 - k) 0
theorem zpad_step {bs : List Int} {k : Nat} (hl : bs.length = 16) (hk : k < 16) : (zpad bs k).set k (gt bs k) = zpad bs (k + 1) := by
  unfold zpad
  apply List.ext_getElem?
  intro j
  rw [List.getElem?_set]
  have e1 : (bs.take k).length = k := by simp; omega
  have e2 : (bs.take (k + 1)).length = k + 1 := by simp; omega
  by_cases hj : k = j
  · subst hj
    rw [if_pos rfl, if_pos (by simp; omega), List.getElem?_append_left (by omega), List.getElem?_take, if_pos (by omega), gt_some (by omega)]
  · rw [if_neg hj]
    by_cases hlt : j < k
    · rw [List.getElem?_append_left (by omega), List.getElem?_append_left (by omega), List.getElem?_take, List.getElem?_take, if_pos hlt, if_pos (by omega)]
    · rw [List.getElem?_append_right (by omega), List.getElem?_append_right (by omega), e1, e2, List.getElem?_replicate, List.getElem?_replicate]
      by_cases h16 : j < 16
      · rw [if_pos (by omega), if_pos (by omega)]
      · rw [if_neg (by omega), if_neg (by omega)]
theorem ad_four (bs : List Int) : zpad bs 4 = adL false bs := rfl
theorem zpad_zero (bs : List Int) : zpad bs 0 = List.replicate 16 0 := rfl

def AdRel (w1 : World) (b : Nat) (bs : List Int) (t : Value) (wr : World) : Prop := ∃ k : Nat, k ≤ 4 ∧ t = .int .i64 k ∧ AddrAt wr b 4 (zpad bs k) ∧ Stored b w1 wr
set_option maxHeartbeats 2000000 in
set_option maxRecDepth 20000 in
theorem address_any (V : Int) (bs : List Int) (six : Bool) (w : World) (h : IsA V bs) : Calls Try.prog 19 #[.agg (addrC V bs), .bool six] w (APost w (.agg (addrC (adV six) (adL six bs)))) := by
  have H := hid h
  obtain ⟨a1, a2, a3, bb, hz⟩ := bx3 w (.cells (addrC V bs) 24) (.cells #[.int .i64 0, .int .u8 0, .int .u8 0, .int .u8 0, .int .u8 0, .int .u8 0, .int .u8 0, .int .u8 0, .int .u8 0, .int .u8 0, .int .u8 0, .int .u8 0, .int .u8 0, .int .u8 0, .int .u8 0, .int .u8 0, .int .u8 0] 24) (.cells #[.int .i64 4, .int .u8 0, .int .u8 0, .int .u8 0, .int .u8 0, .int .u8 0, .int .u8 0, .int .u8 0, .int .u8 0, .int .u8 0, .int .u8 0, .int .u8 0, .int .u8 0, .int .u8 0, .int .u8 0, .int .u8 0, .int .u8 0] 24)
  have A1 := hid (show AddrAt (((w.alloc (.cells (addrC V bs) 24)).alloc (.cells #[.int .i64 0, .int .u8 0, .int .u8 0, .int .u8 0, .int .u8 0, .int .u8 0, .int .u8 0, .int .u8 0, .int .u8 0, .int .u8 0, .int .u8 0, .int .u8 0, .int .u8 0, .int .u8 0, .int .u8 0, .int .u8 0, .int .u8 0] 24)).alloc (.cells #[.int .i64 4, .int .u8 0, .int .u8 0, .int .u8 0, .int .u8 0, .int .u8 0, .int .u8 0, .int .u8 0, .int .u8 0, .int .u8 0, .int .u8 0, .int .u8 0, .int .u8 0, .int .u8 0, .int .u8 0, .int .u8 0, .int .u8 0] 24)) _ V bs from a1)
  have A2 := hid (show AddrAt (((w.alloc (.cells (addrC V bs) 24)).alloc (.cells #[.int .i64 0, .int .u8 0, .int .u8 0, .int .u8 0, .int .u8 0, .int .u8 0, .int .u8 0, .int .u8 0, .int .u8 0, .int .u8 0, .int .u8 0, .int .u8 0, .int .u8 0, .int .u8 0, .int .u8 0, .int .u8 0, .int .u8 0] 24)).alloc (.cells #[.int .i64 4, .int .u8 0, .int .u8 0, .int .u8 0, .int .u8 0, .int .u8 0, .int .u8 0, .int .u8 0, .int .u8 0, .int .u8 0, .int .u8 0, .int .u8 0, .int .u8 0, .int .u8 0, .int .u8 0, .int .u8 0, .int .u8 0] 24)) _ 0 (List.replicate 16 0) from a2)
  have A3 := hid (show AddrAt (((w.alloc (.cells (addrC V bs) 24)).alloc (.cells #[.int .i64 0, .int .u8 0, .int .u8 0, .int .u8 0, .int .u8 0, .int .u8 0, .int .u8 0, .int .u8 0, .int .u8 0, .int .u8 0, .int .u8 0, .int .u8 0, .int .u8 0, .int .u8 0, .int .u8 0, .int .u8 0, .int .u8 0] 24)).alloc (.cells #[.int .i64 4, .int .u8 0, .int .u8 0, .int .u8 0, .int .u8 0, .int .u8 0, .int .u8 0, .int .u8 0, .int .u8 0, .int .u8 0, .int .u8 0, .int .u8 0, .int .u8 0, .int .u8 0, .int .u8 0, .int .u8 0, .int .u8 0] 24)) _ 4 (zpad bs 0) from a3)
  have BB := hid bb
  clear a1 a2 a3 bb h hz
  go_enter Try.func19, Try.ntmps19
  go_upto_region 2 with fail
  generalize ((w.alloc (.cells (addrC V bs) 24)).alloc (.cells #[.int .i64 0, .int .u8 0, .int .u8 0, .int .u8 0, .int .u8 0, .int .u8 0, .int .u8 0, .int .u8 0, .int .u8 0, .int .u8 0, .int .u8 0, .int .u8 0, .int .u8 0, .int .u8 0, .int .u8 0, .int .u8 0, .int .u8 0] 24)).alloc (.cells #[.int .i64 4, .int .u8 0, .int .u8 0, .int .u8 0, .int .u8 0, .int .u8 0, .int .u8 0, .int .u8 0, .int .u8 0, .int .u8 0, .int .u8 0, .int .u8 0, .int .u8 0, .int .u8 0, .int .u8 0, .int .u8 0, .int .u8 0] 24) = w1 at *
  go_wp2_with fail
  go_loopw [6] (fun t wr => AdRel w1 (w.heap.size + 2) bs t wr) (fun t _ => 4 - (intOf t).toNat)
  case atStart => exact ⟨0, by omega, rfl, A3.out, Stored.refl _ _⟩
  case round =>
    obtain ⟨k, hk, rfl, hA, hS⟩ := hrel
    have HA := hid hA
    have HS := hid hS
    clear hA hS
    have hlen := H.out.len
    by_cases hlt : k < 4
    · have c1 := (show AddrAt _ _ V bs from (HS.out.block _ (by omega)).trans A1.out).b (j := k) (by omega)
      have c3 := HA.out.b (j := k) (by simp [zpad]; omega)
      have f3 := HA.out.frz (1 + k)
      have hx := H.out.byt.bd k
      have hst := hid (zpad_step (k := k) hlen (by omega))
      generalize hg : gt bs k = x at *
      generalize gt (zpad bs k) k = y at *
      have HG := hid hg
      clear hg
      go_wp2_with fail
      go_roundw
      case rel => exact ⟨k + 1, by omega, by go_num, by rw [← hst.out]; have := HA.out.setB k x; exact this, HS.out.trans (Stored.setCell _ _ _ _)⟩
      case measure => simp [intOf]; omega
    · have hk4 : k = 4 := by omega
      subst hk4
      have A1' := hid (show AddrAt _ _ V bs from (HS.out.block _ (by omega)).trans A1.out)
      have A2' := hid (show AddrAt _ _ 0 _ from (HS.out.block _ (by omega)).trans A2.out)
      have BB' := hid (BB.out.trans (HS.out.below (by omega)))
      clear HS A1 A2 A3 BB
      cases six
      · go_wp2_with (first
          | ((with_reducible show wpList _ _ _ _ _ _); refine wpList_load_addr (by rfl) _ rfl _ _ _ rfl HA.out (ad_is false H.out).len ?_)
          | ((with_reducible show wpList _ _ _ _ _ _); refine wpList_store_addr (by rfl) _ _ rfl rfl _ _ _ rfl rfl _ _ A2'.out (ad_is false H.out).len (by simp) ?_; intro w' hA hS; replace HA := hid hA; replace BB' := hid (BB'.out.trans (hS.below (by omega))); clear hA hS))
        exact post_addr Try.results19 rfl _ _ _ rfl HA.out (ad_is false H.out).len ⟨rfl, BB'.out⟩
      · go_wp2_with (first
          | ((with_reducible show wpList _ _ _ _ _ _); refine wpList_load_b16 (by rfl) _ rfl _ _ bs rfl (fun j hj => A1'.out.b hj) H.out.len ?_)
          | ((with_reducible show wpList _ _ _ _ _ _); refine wpList_build_addr (by rfl) _ _ rfl _ bs rfl rfl H.out.len ?_)
          | ((with_reducible show wpList _ _ _ _ _ _); refine wpList_store_addr (by rfl) _ _ rfl rfl _ _ _ rfl rfl _ _ A2'.out H.out.len (by simp) ?_; intro w' hA hS; replace HA := hid hA; replace BB' := hid (BB'.out.trans (hS.below (by omega))); clear hA hS))
        exact post_addr Try.results19 rfl _ _ _ rfl HA.out H.out.len ⟨rfl, BB'.out⟩
end Go.Proofs.Ytpiafmnfneefiaa
