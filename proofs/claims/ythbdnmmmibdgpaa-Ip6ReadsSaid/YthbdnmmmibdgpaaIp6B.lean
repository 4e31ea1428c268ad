/-
  package ip6: head, Head, Build.
-/
import Derived.Test.YthbdnmmmibdgpaaIp6A
import Derived.Test.YthbdnmmmibdgpaaWr
namespace Go.Proofs.Ythbdnmmmibdgpaa
open Go.RowKit

def head6 (p : Pk) : Int := if p.Frag = true then 48 else 40
theorem head6_any (p : Pk) (w : World) (hp : IsPk p) : Calls Try.prog 27 #[.agg (pkC p)] w (APost w (.int .i64 (head6 p))) := by
  obtain ⟨a1, bb, hz⟩ := bx1 w (.cells (pkC p) 28)
  obtain ⟨c0, c1, c2, c3, c20, c37, c38, c39, c40, c41, c42, c43, c44, c45⟩ := PkAt.cells (w := w.alloc (.cells (pkC p) 28)) a1 hp.src.len hp.dst.len
  have BB := hid bb
  have HE := hid (show head6 p = if p.Frag = true then 48 else 40 from rfl)
  generalize head6 p = h at *
  clear a1 bb hz c0 c1 c2 c3 c20 c37 c38 c39 c40 c41 c43 c44 c45 hp
  go_enter Try.func27, Try.ntmps27
  go_upto_region 1 with fail
  generalize w.alloc (.cells (pkC p) 28) = w1 at *
  go_wp2_with (first | go_skip | ((with_reducible show wpList _ _ _ _ _ _); (with_reducible show wpList _ _ _ (⟨_, .binOp _ _ _ _ _, _, _, _, _⟩ :: _) _ _); refine wpList_cmp (by rfl) _ (by rfl) _ _ _ _ rfl _ (by go_simp; exact rfl) ?_ ?_ <;> (intro hc; (try simp only [decide_eq_true_eq, decide_eq_false_iff_not, Int.not_lt] at hc); go_prune)))
  all_goals
    go_ret
    refine ⟨?_, BB.out⟩
    have he := HE.out
    show Ending.returned (.int .i64 _) = _
    simp_all
theorem Head6_any (p : Pk) (os xs : List Int) (w : World) (h : Pin w p os xs) : Calls Try.prog 17 #[.agg (pkC p)] w (APost w (.int .i64 (if right6 p os.length xs.length = true then head6 p else 0))) := by
  have P := hid h
  obtain ⟨a1, bb, hz⟩ := bx1 w (.cells (pkC p) 28)
  have A := hid (show PkAt (w.alloc (.cells (pkC p) 28)) w.heap.size p from a1)
  have BB := hid bb
  have PB := hid (h.below bb)
  have l1 := hid h.pk.src.len
  have l2 := hid h.pk.dst.len
  have IP := hid h.pk
  have R := hid (fun W hP => right6_any p os xs W hP)
  have HH := hid (fun W => head6_any p W h.pk)
  obtain ⟨r, hr⟩ : ∃ r, (if right6 p os.length xs.length = true then head6 p else 0) = r := ⟨_, rfl⟩
  rw [hr]
  have HE := hid hr
  clear hr
  generalize right6 p os.length xs.length = rb at *
  generalize head6 p = hd at *
  clear a1 bb hz h
  go_enter Try.func17, Try.ntmps17
  go_upto_region 1 with fail
  generalize w.alloc (.cells (pkC p) 28) = w1 at *
  go_wp2_with (first
    | go_skip
    | ((with_reducible show wpList _ _ _ _ _ _); refine wpList_load_pk (by rfl) _ rfl _ p rfl A.out l1.out l2.out ?_)
    | (go_at_call 15; refine (R.out _ PB.out).mono ?_; rintro en w' ⟨rfl, hb⟩; replace BB := hid (BB.out.trans (hb.mono BB.out.size)); replace A := hid (show PkAt w' _ p from blk_bel A.out hb); clear hb; cases rb)
    | (go_at_call 27; refine (HH.out _).mono ?_; rintro en w' ⟨rfl, hb⟩; replace BB := hid (BB.out.trans (hb.mono BB.out.size)); clear hb))
  all_goals
    go_ret
    refine ⟨?_, BB.out⟩
    have he := HE.out
    clear R HH HE
    simp_all

/-- the bytes of a packet -/
def plen6 (p : Pk) (n : Nat) : Int := head6 p - 40 + n
def off6 (p : Pk) : Int := if p.More = true then p.Off + 1 else p.Off
def b6L (p : Pk) (xs : List Int) : List Int :=
  be 4 (1610612736 + p.TOS * 1048576 + p.Flow) ++ be 2 (plen6 p xs.length) ++ be 1 (if p.Frag = true then 44 else p.Proto) ++ be 1 p.TTL ++ p.sB ++ p.dB ++
    (if p.Frag = true then be 1 p.Proto ++ be 1 0 ++ be 2 (off6 p) ++ be 4 p.ID else []) ++ xs
def B6Post (e : Int) (l : List Int) (w : World) (en : Ending) (w' : World) : Prop :=
  ∃ v, en = .returned (.tuple #[v, .int .i64 e]) ∧ w'.ownsRow w.heap.size 5 1 v l.length (bts l) ∧ Below w.heap.size w w'
theorem build6_no (p : Pk) (os xs : List Int) (w : World) (h : Pin w p os xs) (hr : right6 p os.length xs.length = false) : Calls Try.prog 11 #[.agg (pkC p)] w (B6Post 1 [] w) := by
  obtain ⟨a1, bb, hz⟩ := bx1 w (.cells (pkC p) 28)
  have A := hid (show PkAt (w.alloc (.cells (pkC p) 28)) w.heap.size p from a1)
  have BB := hid bb
  have PB := hid (h.below bb)
  have l1 := hid h.pk.src.len
  have l2 := hid h.pk.dst.len
  have R := fun W hP => right6_any p os xs W hP
  rw [hr] at R
  have R := hid R
  clear a1 bb hz h hr
  go_enter Try.func11, Try.ntmps11
  go_upto_region 1 with fail
  generalize w.alloc (.cells (pkC p) 28) = w1 at *
  go_wp2_with (first
    | go_skip
    | ((with_reducible show wpList _ _ _ _ _ _); refine wpList_load_pk (by rfl) _ rfl _ p rfl A.out l1.out l2.out ?_)
    | (go_at_call 15; refine (R.out _ PB.out).mono ?_; rintro en w' ⟨rfl, hb⟩; replace BB := hid (BB.out.trans (hb.mono BB.out.size)); clear hb))
  go_ret2
  exact ⟨_, rfl, World.ownsRow_nil _ _ _ _, BB.out⟩

theorem right6_parts {p : Pk} {on n : Nat} (h : right6 p on n = true) : (p.V = 6 ∧ p.sV = 6 ∧ p.dV = 6 ∧ p.DF = false ∧ on = 0 ∧ p.Proto ≠ 44) ∧ (0 ≤ p.TOS ∧ p.TOS ≤ 255) ∧ (0 ≤ p.Flow ∧ p.Flow < 1048576) ∧ (0 ≤ p.Proto ∧ p.Proto ≤ 255) ∧ (0 ≤ p.TTL ∧ p.TTL ≤ 255) ∧
    (0 ≤ p.Off ∧ p.Off % 8 = 0 ∧ p.Off + n ≤ 65535) ∧ n ≤ 65535 ∧ (p.Frag = true → n ≤ 65527 ∧ (n = 0 → p.Off = 0 ∧ p.More = false) ∧ (p.More = true → n % 8 = 0)) ∧ (p.Frag = false → p.ID = 0 ∧ p.Off = 0 ∧ p.More = false) := by
  unfold right6 six6 at h
  simp only [Bool.and_eq_true, decide_eq_true_eq, Bool.not_eq_true', decide_eq_false_iff_not] at h
  obtain ⟨⟨⟨⟨⟨⟨⟨⟨⟨⟨h1, h2⟩, h3⟩, h4⟩, h5⟩, h6⟩, h7⟩, h8⟩, h9⟩, h10⟩, h11⟩ := h
  refine ⟨⟨h1, h2, h3, h4, h5, h6⟩, h7, h8, h9, h10, ?_⟩
  cases hf : p.Frag with
  | true =>
    rw [hf, if_pos rfl] at h11
    simp only [Bool.and_eq_true, decide_eq_true_eq] at h11
    obtain ⟨⟨⟨⟨k1, k2⟩, k3⟩, k4⟩, k5⟩ := h11
    refine ⟨⟨k1, k2, k4⟩, by omega, fun _ => ⟨k3, fun hn => ?_, fun hm => ?_⟩, fun hx => by cases hx⟩
    · rw [if_pos hn] at k5; simpa using k5
    · by_cases hn : n = 0
      · rw [hn]
      · rw [if_neg hn, hm] at k5; simpa using k5
  | false =>
    rw [hf, if_neg (by decide)] at h11
    simp only [Bool.and_eq_true, decide_eq_true_eq, Bool.not_eq_true'] at h11
    obtain ⟨⟨⟨k1, k2⟩, k3⟩, k4⟩ := h11
    exact ⟨⟨by omega, by omega, by omega⟩, k4, fun hx => (by cases hx), fun _ => ⟨k1, k2, k3⟩⟩
theorem u32_or {a b : Int} (k i : Nat) (ha : a = ((2 ^ i * k : Nat) : Int)) (h0 : 0 ≤ b) (hb : b < ((2 ^ i : Nat) : Int)) (hs : a + b < 4294967296) : bits .or .u32 a b = a + b := by
  obtain ⟨n, rfl⟩ : ∃ n : Nat, b = n := ⟨b.toNat, by omega⟩
  subst ha
  have hn : n < 2 ^ i := by exact_mod_cast hb
  have e1 : (BitVec.ofInt 32 ((2 ^ i * k : Nat) : Int)).toNat = 2 ^ i * k := by rw [BitVec.toNat_ofInt]; omega
  have e2 : (BitVec.ofInt 32 (n : Int)).toNat = n := by rw [BitVec.toNat_ofInt]; omega
  show IntKind.u32.wrap ((BitVec.ofInt 32 ((2 ^ i * k : Nat) : Int) ||| BitVec.ofInt 32 (n : Int)).toNat : Nat) = _
  rw [BitVec.toNat_or, e1, e2, ← Nat.two_pow_add_eq_or_of_lt hn]
  have := IntWalk.u32_in ((2 ^ i * k + n : Nat) : Int) (by omega)
  rw [this]
  omega
theorem u32_word6 {t f : Int} (ht : 0 ≤ t ∧ t ≤ 255) (hf : 0 ≤ f ∧ f < 1048576) : bits .or .u32 (bits .or .u32 1610612736 (t * 1048576)) f = 1610612736 + t * 1048576 + f := by
  rw [u32_or (a := 1610612736) (b := t * 1048576) 6 28 (by decide) (by omega) (by have : ((2 ^ 28 : Nat) : Int) = 268435456 := by decide
                                                                                  omega) (by omega)]
  rw [u32_or (a := 1610612736 + t * 1048576) (b := f) (6 * 256 + t.toNat) 20 (by have : ((2 ^ 20 * (6 * 256 + t.toNat) : Nat) : Int) = 1048576 * (6 * 256 + t) := by simp; omega
                                                                                 omega) hf.1 (by have : ((2 ^ 20 : Nat) : Int) = 1048576 := by decide
                                                                                                 omega) (by omega)]
set_option maxHeartbeats 4000000 in
set_option maxRecDepth 20000 in
theorem build6_yes (p : Pk) (os xs : List Int) (w : World) (h : Pin w p os xs) (hr : right6 p os.length xs.length = true) : Calls Try.prog 11 #[.agg (pkC p)] w (B6Post 0 (b6L p xs) w) := by
  obtain ⟨i0, hi, hz0, hz1, hz2⟩ := info_parts Try.info5
  obtain ⟨_, t1, t2, t3, t4, t5, t6, t7, t8⟩ := right6_parts hr
  have hp := h.pk
  have H1 := hid hp.src
  have H2 := hid hp.dst
  have ID0 := hp.id0
  have ID1 := hp.id1
  obtain ⟨xa, xc, ex, hxc, hxm, _⟩ := h.xR.open
  unfold maxLen at hxm
  have PW := hid h
  obtain ⟨a1, bb, hz⟩ := bx1 w (.cells (pkC p) 28)
  have DD := hid (fun W (hW : Below (w.alloc (.cells (pkC p) 28)).heap.size (w.alloc (.cells (pkC p) 28)) W) => (⟨blk_bel a1 hW, PkAt.cells (blk_bel a1 hW) hp.src.len hp.dst.len, PW.out.below (bb.trans (hW.mono bb.size)), bb.trans (hW.mono bb.size)⟩ : PkAt W _ p ∧ PkCells W _ p ∧ Pin W p os xs ∧ Below w.heap.size w W))
  have R := fun W hP => right6_any p os xs W hP
  rw [hr] at R
  have R := hid R
  have HH := hid (fun W => head6_any p W hp)
  have XB := hid (fun b (hne : xs ≠ []) (hb : p.xv.ownBlock = some b) => h.xR.lt hne hb)
  have B0 := hid (Below.refl (w.alloc (.cells (pkC p) 28)).heap.size (w.alloc (.cells (pkC p) 28)))
  have HZ := hid hz
  have LL : Hid (b6L p xs = be 4 (1610612736 + p.TOS * 1048576 + p.Flow) ++ be 2 (plen6 p xs.length) ++ be 1 (if p.Frag = true then 44 else p.Proto) ++ be 1 p.TTL ++ p.sB ++ p.dB ++
    (if p.Frag = true then be 1 p.Proto ++ be 1 0 ++ be 2 (off6 p) ++ be 4 p.ID else []) ++ xs) := hid rfl
  generalize b6L p xs = r at *
  have hl1 := hp.src.len
  have hl2 := hp.dst.len
  have hor := u32_word6 t1 t2
  have hpl : 0 ≤ head6 p - 40 + (xs.length : Int) ∧ head6 p - 40 + (xs.length : Int) ≤ 65535 := by
    unfold head6
    cases hf : p.Frag
    · simp; omega
    · have := (t7 hf).1; simp; omega
  have hhd : 40 ≤ head6 p ∧ head6 p ≤ 48 := by unfold head6; split <;> omega
  unfold plen6 off6 at LL
  generalize head6 p = hd at *
  have s1 : IntKind.i64.wrap (hd - 40) = hd - 40 := IntWalk.i64_in _ (by omega)
  have s2 : IntKind.i64.wrap (hd - 40 + (xs.length : Int)) = hd - 40 + (xs.length : Int) := IntWalk.i64_in _ (by omega)
  have s3 : IntKind.u16.wrap (hd - 40 + (xs.length : Int)) = hd - 40 + (xs.length : Int) := IntWalk.u16_in _ (by omega)
  clear a1 bb hz h hr hp
  go_enter Try.func11, Try.ntmps11
  go_upto_region 1 with fail
  generalize w.alloc (.cells (pkC p) 28) = w1 at *
  obtain ⟨A, ⟨c0, c1, c2, c3, c20, c37, c38, c39, c40, c41, c42, c43, c44, c45⟩, PN, BW⟩ := DD.out _ B0.out; rw [ex] at c45; replace A := hid A; replace BW := hid BW; replace PN := hid PN
  have w' := w1
  go_wp2_with (first
    | go_skip
    | ((with_reducible show wpList _ _ _ _ _ _)
       first
       | ((with_reducible show wpList _ _ _ (⟨_, .binOp _ _ _ _ _, _, _, _, _⟩ :: _) _ _); refine wpList_cmp (by rfl) _ (by rfl) _ _ _ _ rfl _ (by go_simp; exact rfl) ?_ ?_ <;> (intro hc; (try simp only [decide_eq_true_eq, decide_eq_false_iff_not, Int.not_lt] at hc); go_prune))
       | (refine wpList_load_pk (by rfl) _ rfl _ p rfl A.out H1.out.len H2.out.len ?_))
    | ((with_reducible show Code.wp _ (Code.region 5 _ true) _ _ _)
       refine wp_region_canon ((0, false) :: (1, false) :: (4, false) :: (5, false) :: (6, false) :: (2, true) :: (3, false) :: (7, false) :: (8, false) :: (9, true) :: []) (fun W => Below w1.heap.size w1 W) (by kernel_rfl) (by kernel_rfl) (fun c a d v w h => by cases d <;> exact h) ?_ ?_
       · exact B0.out.trans ((Same.drew _).below _)
       simp only [pick, List.getElem?_cons_succ, List.getElem?_cons_zero]
       (repeat (first | (refine wpD_weak (by rfl) ?_; apply Exists.intro; refine ⟨fun wS hS => ?_, ?_⟩; (focus (obtain ⟨A, ⟨c0, c1, c2, c3, c20, c37, c38, c39, c40, c41, c42, c43, c44, c45⟩, PN, BW⟩ := DD.out _ hS; rw [ex] at c45; go_simp; (try with_reducible rfl); done)); simp only [Act.put, List.setIfInBounds_toArray, List.set_cons_zero, List.set_cons_succ]) | (refine wpD_pass (by rfl) ?_; simp only [Act.put, List.setIfInBounds_toArray, List.set_cons_zero, List.set_cons_succ])))
       refine wpD_load_pk (by rfl) _ rfl _ p rfl (fun _ hS => (DD.out _ hS).1) H1.out.len H2.out.len ?_
       simp only [Act.put, List.setIfInBounds_toArray, List.set_cons_zero, List.set_cons_succ]
       (repeat (first | (refine wpD_weak (by rfl) ?_; apply Exists.intro; refine ⟨fun wS hS => ?_, ?_⟩; (focus (obtain ⟨A, ⟨c0, c1, c2, c3, c20, c37, c38, c39, c40, c41, c42, c43, c44, c45⟩, PN, BW⟩ := DD.out _ hS; rw [ex] at c45; go_simp; (try with_reducible rfl); done)); simp only [Act.put, List.setIfInBounds_toArray, List.set_cons_zero, List.set_cons_succ]) | (refine wpD_pass (by rfl) ?_; simp only [Act.put, List.setIfInBounds_toArray, List.set_cons_zero, List.set_cons_succ])))
       (refine wpD_strong (by rfl) (fun K hK => ?_); go_simp)
       refine (HH.out _).mono ?_
       rintro en w' ⟨rfl, hb⟩
       replace WW := hid (WW.out.below (((Same.drew _).below _).trans (by simpa using hb)))
       replace B0 := hid ((B0.out.trans ((Same.drew _).below _)).trans (hb.mono (by simpa using B0.out.size)))
       clear hb
       (refine hK _ _ (by exact B0.out) ?_; clear hK K; (try simp only [Act.put, List.setIfInBounds_toArray, List.set_cons_zero, List.set_cons_succ]))
       (repeat (first | (refine wpD_weak (by rfl) ?_; apply Exists.intro; refine ⟨fun wS hS => ?_, ?_⟩; (focus (obtain ⟨A, ⟨c0, c1, c2, c3, c20, c37, c38, c39, c40, c41, c42, c43, c44, c45⟩, PN, BW⟩ := DD.out _ hS; rw [ex] at c45; go_simp; (try with_reducible rfl); done)); simp only [Act.put, List.setIfInBounds_toArray, List.set_cons_zero, List.set_cons_succ]) | (refine wpD_pass (by rfl) ?_; simp only [Act.put, List.setIfInBounds_toArray, List.set_cons_zero, List.set_cons_succ])))
       (refine wpD_strong (by rfl) (fun K hK => ?_); go_simp)
       refine (w16_own _ wb _ _ _ _ WW.out hpl.1 hpl.2 (by simp [be_length] <;> omega)).mono ?_
       rintro en w' ⟨rfl, hW, hb⟩
       replace WW := hid hW
       replace B0 := hid (B0.out.trans (hb.mono LE.out))
       clear hW hb
       (refine hK _ _ (by exact B0.out) ?_; clear hK K; (try simp only [Act.put, List.setIfInBounds_toArray, List.set_cons_zero, List.set_cons_succ]))
       refine wpD_nil ?_
       clear A c0 c1 c2 c3 c20 c37 c38 c39 c40 c41 c42 c43 c44 c45 BW PN; obtain ⟨A, ⟨c0, c1, c2, c3, c20, c37, c38, c39, c40, c41, c42, c43, c44, c45⟩, PN, BW⟩ := DD.out _ B0.out; rw [ex] at c45; replace A := hid A; replace BW := hid BW; replace PN := hid PN)
    | (go_at_call 26; refine (w16_own _ wb _ _ _ _ WW.out (by omega) (by omega) (by simp [be_length, hl1, hl2] <;> omega)).mono ?_; rintro en w' ⟨rfl, hW, hb⟩; replace WW := hid hW; replace B0 := hid (B0.out.trans (hb.mono LE.out)); clear hW hb; clear A c0 c1 c2 c3 c20 c37 c38 c39 c40 c41 c42 c43 c44 c45 BW PN; obtain ⟨A, ⟨c0, c1, c2, c3, c20, c37, c38, c39, c40, c41, c42, c43, c44, c45⟩, PN, BW⟩ := DD.out _ B0.out; rw [ex] at c45; replace A := hid A; replace BW := hid BW; replace PN := hid PN)
    | (go_at_call 28; refine (w8_own _ wb _ _ _ _ WW.out (by omega) (by omega) (by simp [be_length, hl1, hl2] <;> omega)).mono ?_; rintro en w' ⟨rfl, hW, hb⟩; replace WW := hid hW; replace B0 := hid (B0.out.trans (hb.mono LE.out)); clear hW hb; clear A c0 c1 c2 c3 c20 c37 c38 c39 c40 c41 c42 c43 c44 c45 BW PN; obtain ⟨A, ⟨c0, c1, c2, c3, c20, c37, c38, c39, c40, c41, c42, c43, c44, c45⟩, PN, BW⟩ := DD.out _ B0.out; rw [ex] at c45; replace A := hid A; replace BW := hid BW; replace PN := hid PN)
    | (go_at_call 29
       first
       | (refine (wBytes_own _ wb _ p.sB _ _ _ WW.out (by have h := pk_src_rb A.out H1.out (n := 16) (by decide); rwa [List.take_of_length_le (by omega)] at h) (fun _ b hb => by have := LE.out; have := HZ.out; simp [Value.ownBlock] at hb; omega) (by simp [be_length, hl1, hl2] <;> omega) (by omega)).mono ?_; rintro en w' ⟨rfl, hW, hb⟩; replace WW := hid hW; replace B0 := hid (B0.out.trans (hb.mono LE.out)); clear hW hb; clear A c0 c1 c2 c3 c20 c37 c38 c39 c40 c41 c42 c43 c44 c45 BW PN; obtain ⟨A, ⟨c0, c1, c2, c3, c20, c37, c38, c39, c40, c41, c42, c43, c44, c45⟩, PN, BW⟩ := DD.out _ B0.out; rw [ex] at c45; replace A := hid A; replace BW := hid BW; replace PN := hid PN)
       | (refine (wBytes_own _ wb _ p.dB _ _ _ WW.out (by have h := pk_dst_rb A.out hl1 H2.out (n := 16) (by decide); rwa [List.take_of_length_le (by omega)] at h) (fun _ b hb => by have := LE.out; have := HZ.out; simp [Value.ownBlock] at hb; omega) (by simp [be_length, hl1, hl2] <;> omega) (by omega)).mono ?_; rintro en w' ⟨rfl, hW, hb⟩; replace WW := hid hW; replace B0 := hid (B0.out.trans (hb.mono LE.out)); clear hW hb; clear A c0 c1 c2 c3 c20 c37 c38 c39 c40 c41 c42 c43 c44 c45 BW PN; obtain ⟨A, ⟨c0, c1, c2, c3, c20, c37, c38, c39, c40, c41, c42, c43, c44, c45⟩, PN, BW⟩ := DD.out _ B0.out; rw [ex] at c45; replace A := hid A; replace BW := hid BW; replace PN := hid PN)
       | (refine (wBytes_own _ wb _ xs _ _ _ WW.out (by rw [← ex]; exact PN.out.xR) (fun hne b hb => by have := LE.out; have := HZ.out; have := XB.out b hne (by rw [ex]; exact hb); omega) (by simp [be_length, hl1, hl2] <;> first | omega | (have := (t7 (by assumption)).1; omega)) (by omega)).mono ?_; rintro en w' ⟨rfl, hW, hb⟩; replace WW := hid hW; replace B0 := hid (B0.out.trans (hb.mono LE.out)); clear hW hb; clear A c0 c1 c2 c3 c20 c37 c38 c39 c40 c41 c42 c43 c44 c45 BW PN; obtain ⟨A, ⟨c0, c1, c2, c3, c20, c37, c38, c39, c40, c41, c42, c43, c44, c45⟩, PN, BW⟩ := DD.out _ B0.out; rw [ex] at c45; replace A := hid A; replace BW := hid BW; replace PN := hid PN))
    | (go_at_call 30; refine (wOut_own _ wb _ _ _ WW.out).mono ?_; rintro en w' ⟨v9, rfl, ho, hb⟩; have LO := hid (Nat.le_trans BW.out.size (Nat.le_refl _)); have BF := hid (BW.out.trans (hb.mono BW.out.size)); have HO := hid (own_base ho BW.out.size); clear ho hb)
    | (go_at_call 15; refine (R.out _ PN.out).mono ?_; rintro en w' ⟨rfl, hb⟩; replace B0 := hid (B0.out.trans (hb.mono B0.out.size)); clear hb; clear A c0 c1 c2 c3 c20 c37 c38 c39 c40 c41 c42 c43 c44 c45 BW PN; obtain ⟨A, ⟨c0, c1, c2, c3, c20, c37, c38, c39, c40, c41, c42, c43, c44, c45⟩, PN, BW⟩ := DD.out _ B0.out; rw [ex] at c45; replace A := hid A; replace BW := hid BW; replace PN := hid PN)
    | (go_at_call 24; refine (wnew_own 65575 _ (by decide) (by decide)).mono ?_; rintro en w' ⟨wb, rfl, hW, hb⟩; have WW := hid hW; have LE := hid B0.out.size; replace B0 := hid (B0.out.trans (hb.mono B0.out.size)); clear hW hb; clear A c0 c1 c2 c3 c20 c37 c38 c39 c40 c41 c42 c43 c44 c45 BW PN; obtain ⟨A, ⟨c0, c1, c2, c3, c20, c37, c38, c39, c40, c41, c42, c43, c44, c45⟩, PN, BW⟩ := DD.out _ B0.out; rw [ex] at c45; replace A := hid A; replace BW := hid BW; replace PN := hid PN)
    | (go_at_call 25; refine (w32_own _ wb _ _ _ _ WW.out (by simp [be_length] <;> omega)).mono ?_; rintro en w' ⟨rfl, hW, hb⟩; replace WW := hid hW; replace B0 := hid (B0.out.trans (hb.mono LE.out)); clear hW hb; clear A c0 c1 c2 c3 c20 c37 c38 c39 c40 c41 c42 c43 c44 c45 BW PN; obtain ⟨A, ⟨c0, c1, c2, c3, c20, c37, c38, c39, c40, c41, c42, c43, c44, c45⟩, PN, BW⟩ := DD.out _ B0.out; rw [ex] at c45; replace A := hid A; replace BW := hid BW; replace PN := hid PN))
  all_goals
    go_ret2
    have e := LL.out
    clear DD R HH LL
    refine ⟨v9, rfl, ?_, BF.out⟩
    have ho := HO.out
    have key : ∀ L, w'.ownsRow w.heap.size 5 1 v9 L.length (bts L) → L = r → w'.ownsRow w.heap.size 5 1 v9 r.length (bts r) := fun L h he => by rw [← he]; exact h
    refine key _ ho ?_
    rw [e]
    clear key ho e
    first
    | (simp_all; done)
    | (simp [*]; done)
theorem build6_any (p : Pk) (os xs : List Int) (w : World) (h : Pin w p os xs) : Calls Try.prog 11 #[.agg (pkC p)] w (B6Post (if right6 p os.length xs.length = true then 0 else 1) (if right6 p os.length xs.length = true then b6L p xs else []) w) := by
  cases hr : right6 p os.length xs.length
  · exact build6_no p os xs w h hr
  · exact build6_yes p os xs w h hr
end Go.Proofs.Ythbdnmmmibdgpaa
