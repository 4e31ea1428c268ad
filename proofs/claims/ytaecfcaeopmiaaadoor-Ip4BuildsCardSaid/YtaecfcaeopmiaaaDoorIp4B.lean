/-
  sum.Of; ip4.flags, Build.
-/
import Derived.Test.YtaecfcaeopmiaaaDoorIp4A
import Derived.Test.YtaecfcaeopmiaaaDoorU16
import Derived.Test.YtaecfcaeopmiaaaDoorBBx
import Derived.Test.YtaecfcaeopmiaaaDoorSum
import Derived.Test.YtaecfcaeopmiaaaDoorWr
namespace Go.Proofs.YtaecfcaeopmiaaaDoor
open Go.RowKit

theorem of_any (bv : Value) (l : List Int) (w : World) (h : Rb w bv l) (hl : l.length ≤ 70368744177664) : Calls Tryd.prog 49 #[bv] w (fun en w' => en = .returned (.int .u16 (65535 - partL l)) ∧ Drw w w') := by
  have hb := partL_bd h.byt
  have hx := u16_xor _ hb.1 hb.2
  have hx2 := u16_xor' _ hb.1 hb.2
  have PT := hid (part_any bv l w h hl)
  unfold PartPost at PT
  generalize partL l = p at *
  clear h
  go_enter Tryd.func49, Tryd.ntmps49
  go_wp2_with fail
  refine PT.out.mono ?_
  rintro en w' ⟨rfl, hd⟩
  have D := hid hd
  clear hd
  go_wp2_with fail
  go_ret
  exact ⟨rfl, D.out⟩
theorem flags_any (p : Pk) (w : World) (hp : IsPk p) (h0 : 0 ≤ p.Off) (h1 : p.Off ≤ 65528) : Calls Tryd.prog 45 #[.agg (pkC p)] w (APost w (.int .u16 (flags4 p))) := by
  have L1 := hp.src.len
  have L2 := hp.dst.len
  clear hp
  have RE := hid (show flags4 p = p.Off / 8 + (if p.DF = true then 16384 else 0) + (if p.More = true then 8192 else 0) from rfl)
  rcases p with ⟨V, TOS, Flow, sV, sB, dV, dB, Proto, TTL, ID, DF, More, Frag, Off, ov, xv⟩
  simp only at h0 h1 L1 L2 RE
  have S := hid (Sp.in1 w (pkC ⟨V, TOS, Flow, sV, sB, dV, dB, Proto, TTL, ID, DF, More, Frag, Off, ov, xv⟩) 30)
  generalize flags4 _ = r at *
  have c1 : IntKind.u16.wrap (Off / 8) = Off / 8 := IntWalk.u16_in _ (by omega)
  have o1 := u16_or14 (x := Off / 8) (by omega) (by omega)
  have o2 := u16_or13' (x := Off / 8) (by omega)
  have P := hid (fun en w' v (h1 : en = .returned v) (h2 : Sp w w' []) => show APost w v en w' from ⟨h1, h2.bel⟩)
  by_cases h8 : Off / 8 < 8192
  · have o3 := u16_or13 (x := Off / 8) (by omega) h8
    replace o2 := o2 h8
    cases DF <;> cases More
    all_goals (
    go_enter Tryd.func45, Tryd.ntmps45
    go_upto_region 1 with fail
    generalize w.alloc _ = w' at *
    generalize w.heap.size = b at *
    go_wp2_with (first
      | go_skip
      | ((with_reducible show wpList _ _ _ _ _ _); ((with_reducible show wpList _ _ _ (⟨_, .load _ _, _, _, _, _⟩ :: _) _ _); first | (refine wpList_get_pk (by rfl) _ _ rfl S.out _ _ rfl 0 _ rfl _ rfl (by rfl) (by first | rfl | assumption) (by first | rfl | assumption) ?_) | (refine wpList_get_pk (by rfl) _ _ rfl S.out _ _ rfl 1 _ rfl _ rfl (by rfl) (by first | rfl | assumption) (by first | rfl | assumption) ?_) | (refine wpList_get_pk (by rfl) _ _ rfl S.out _ _ rfl 2 _ rfl _ rfl (by rfl) (by first | rfl | assumption) (by first | rfl | assumption) ?_) | (refine wpList_get_pk (by rfl) _ _ rfl S.out _ _ rfl 3 _ rfl _ rfl (by rfl) (by first | rfl | assumption) (by first | rfl | assumption) ?_) | (refine wpList_get_pk (by rfl) _ _ rfl S.out _ _ rfl 4 _ rfl _ rfl (by rfl) (by first | rfl | assumption) (by first | rfl | assumption) ?_) | (refine wpList_get_pk (by rfl) _ _ rfl S.out _ _ rfl 5 _ rfl _ rfl (by rfl) (by first | rfl | assumption) (by first | rfl | assumption) ?_))))
    go_ret
    exact P.out _ _ _ (by rw [RE.out]; simp) S.out.nil
    )
  · omega
theorem WrB.eqL {base wb : Nat} {w : World} {L L' : List Int} {lim : Int} (h : WrB base w wb L lim) (he : L = L') : WrB base w wb L' lim := he ▸ h
theorem build4_no (p : Pk) (os xs : List Int) (w : World) (h : Pin w p os xs) (hT : Tab w) (hl : os.length ≤ 140737488355328 ∧ xs.length ≤ 140737488355328) (hr : right4 p os xs.length = false) : Calls Tryd.prog 18 #[.agg (pkC p)] w (B6Post 1 [] w) := by
  have L1 := h.pk.src.len
  have L2 := h.pk.dst.len
  have RG := hid (fun W (hW : Below w.heap.size w W) => Head4_any p os xs W (h.below hW) (hT.below hW) hl)
  rw [hr] at RG
  simp only [Bool.false_eq_true, if_false] at RG
  have S := hid (Sp.in1 w (pkC p) 30)
  have P := hid (fun en w' (h1 : en = .returned (.tuple #[.slice none 0 0, .int .i64 1])) (h2 : Sp w w' []) => show B6Post 1 [] w en w' from ⟨_, h1, World.ownsRow_nil _ _ _ _, h2.bel⟩)
  clear h hT hl hr
  go_enter Tryd.func18, Tryd.ntmps18
  go_upto_region 1 with fail
  generalize w.alloc _ = w' at *
  generalize hb0 : w.heap.size = b at *
  go_wp2_with (first
    | go_skip
    | ((with_reducible show wpList _ _ _ _ _ _); first | (((with_reducible show wpList _ _ _ (⟨_, .load 30 _, _, _, _, _⟩ :: _) _ _); first | (refine wpList_getW (by rfl) _ rfl S.out _ rfl 0 _ rfl (by first | rfl | assumption) (by first | rfl | assumption) ?_) | (refine wpList_getW (by rfl) _ rfl S.out _ rfl 1 _ rfl (by first | rfl | assumption) (by first | rfl | assumption) ?_) | (refine wpList_getW (by rfl) _ rfl S.out _ rfl 2 _ rfl (by first | rfl | assumption) (by first | rfl | assumption) ?_) | (refine wpList_getW (by rfl) _ rfl S.out _ rfl 3 _ rfl (by first | rfl | assumption) (by first | rfl | assumption) ?_) | (refine wpList_getW (by rfl) _ rfl S.out _ rfl 4 _ rfl (by first | rfl | assumption) (by first | rfl | assumption) ?_) | (refine wpList_getW (by rfl) _ rfl S.out _ rfl 5 _ rfl (by first | rfl | assumption) (by first | rfl | assumption) ?_))))
    | (go_at_call 22; refine (RG.out _ (by have := S.out.bel; rwa [hb0] at this)).mono ?_; rintro en w' ⟨rfl, hb⟩; replace S := hid (S.out.keep hb); clear hb))
  go_ret2
  exact P.out _ _ rfl S.out.nil
set_option maxHeartbeats 400000 in
set_option maxRecDepth 20000 in
theorem build4_yes (p : Pk) (os xs : List Int) (w : World) (h : Pin w p os xs) (hT : Tab w) (hr : right4 p os xs.length = true) : Calls Tryd.prog 18 #[.agg (pkC p)] w (B6Post 0 (b4L p os xs) w) := by
  obtain ⟨⟨t0, t1, t2, t3⟩, ⟨a0, a1⟩, ⟨a2, a3⟩, ⟨b1, b2, b3⟩, ⟨c1, c2, c3⟩, d1, d2⟩ := right4_parts hr
  have hv := validB_len d1
  have hf := flags4_bd (p := p) c1.1 c1.2.1 c1.2.2.1
  have hp := h.pk
  have H1 := hid hp.src
  have H2 := hid hp.dst
  have hl1 := hp.src.len
  have hl2 := hp.dst.len
  have hs := sum4_bd hp h.oR.byt hr
  have ID0 := hp.id0
  obtain ⟨oa, oc, eo, hoc, hom, _⟩ := h.oR.open
  obtain ⟨xa, xc, ex, hxc, hxm, _⟩ := h.xR.open
  unfold maxLen at hxm hom
  have PW := hid h
  obtain ⟨a1', bb, hz⟩ := bx1 w (.cells (pkC p) 30)
  have DD := hid (fun W (hW : Below (w.alloc (.cells (pkC p) 30)).heap.size (w.alloc (.cells (pkC p) 30)) W) => (⟨blk_bel a1' hW, PkAt.cells (blk_bel a1' hW) hp.src.len hp.dst.len, PW.out.below (bb.trans (hW.mono bb.size)), bb.trans (hW.mono bb.size)⟩ : PkAt W _ p ∧ PkCells W _ p ∧ Pin W p os xs ∧ Below w.heap.size w W))
  have R := fun W (hW : Below w.heap.size w W) hP => Head4_any p os xs W hP (hT.below hW) (by omega)
  rw [hr] at R
  simp only [if_true] at R
  have R := hid R
  have FL := hid (fun W => flags_any p W hp c1.1 c1.2.1)
  have XB := hid (fun b (hne : xs ≠ []) (hb : p.xv.ownBlock = some b) => h.xR.lt hne hb)
  have OB := hid (fun b (hne : os ≠ []) (hb : p.ov.ownBlock = some b) => h.oR.lt hne hb)
  have B0 := hid (Below.refl (w.alloc (.cells (pkC p) 30)).heap.size (w.alloc (.cells (pkC p) 30)))
  have HZ := hid hz
  have yh := hid (h4_byt (s := 0) hp h.oR.byt hr (by decide) (by decide))
  have lh := h4_len (p := p) (os := os) (n := xs.length) (s := 0) hl1 hl2
  have hhd : ((20 + os.length : Nat) : Int) = 20 + (os.length : Int) := by omega
  have E1 := be1' (v := 64 + ((20 + os.length : Nat) : Int) / 4) (by omega) (by omega)
  have E2 := be1' (v := p.TOS) b1.1 b1.2
  have E3 := be2' (v := ((20 + os.length : Nat) : Int) + xs.length) (by omega) (by omega)
  have E4 := be2' (v := p.ID) ID0 t3
  have E5 := be2' (v := flags4 p) hf.1 (by omega)
  have E6 := be1' (v := p.TTL) b3.1 b3.2
  have E7 := be1' (v := p.Proto) b2.1 b2.2
  have LH : Hid ([] ++ be 1 (64 + ((20 + os.length : Nat) : Int) / 4) ++ be 1 p.TOS ++ be 2 (((20 + os.length : Nat) : Int) + xs.length) ++ be 2 p.ID ++ be 2 (flags4 p) ++ be 1 p.TTL ++ be 1 p.Proto ++ be 2 0 ++ p.sB.take 4 ++ p.dB.take 4 ++ os = h4 p os xs.length 0) := hid (by
    rw [E1, E2, E3, E4, E5, E6, E7, be2' (v := 0) (by decide) (by decide)]
    unfold h4
    rw [show ((20 + os.length : Nat) : Int) + xs.length = ((20 + os.length + xs.length : Nat) : Int) by omega]
    (try simp))
  clear E1 E2 E3 E4 E5 E6 E7
  have LB : Hid (b4L p os xs = ((h4 p os xs.length 0).set 10 (sum4 p os xs.length / 256)).set 11 (sum4 p os xs.length % 256) ++ xs) := hid (by
    unfold b4L
    congr 1)
  have SM : Hid (sum4 p os xs.length = 65535 - partL (h4 p os xs.length 0)) := hid rfl
  generalize b4L p os xs = r at *
  generalize sum4 p os xs.length = sm at *
  generalize hH0 : h4 p os xs.length 0 = H0 at *
  generalize flags4 p = fl at *
  have s4 : ((20 + os.length : Nat) : Int) / 4 = ((20 + os.length : Nat) : Int) / 4 := rfl
  generalize hhd2 : ((20 + os.length : Nat) : Int) = hd at *
  have bhd : 20 ≤ hd ∧ hd ≤ 60 := by omega
  have z1 : (hd == 0) = false := by simp; omega
  have s1 : IntKind.i64.wrap (64 + hd / 4) = 64 + hd / 4 := IntWalk.i64_in _ (by omega)
  have s2 : IntKind.u8.wrap (64 + hd / 4) = 64 + hd / 4 := IntWalk.u8_in _ (by omega)
  have s3 : IntKind.u8.wrap p.TOS = p.TOS := IntWalk.u8_in _ (by omega)
  have s5 : IntKind.i64.wrap (hd + (xs.length : Int)) = hd + (xs.length : Int) := IntWalk.i64_in _ (by omega)
  have s6 : IntKind.u16.wrap (hd + (xs.length : Int)) = hd + (xs.length : Int) := IntWalk.u16_in _ (by omega)
  have s7 : IntKind.u16.wrap p.ID = p.ID := IntWalk.u16_in _ (by omega)
  have s8 : IntKind.u8.wrap p.TTL = p.TTL := IntWalk.u8_in _ (by omega)
  have s9 : IntKind.u8.wrap p.Proto = p.Proto := IntWalk.u8_in _ (by omega)
  have hn : hd + (xs.length : Int) ≤ 65535 := by omega
  have ON : (os.length : Int) = hd - 20 := by omega
  replace ON := hid ON
  clear a1' bb hz h hr hp hT hhd hhd2 s4 t0 t1 t2 a0 a1 a2 a3 d1
  go_enter Tryd.func18, Tryd.ntmps18
  go_upto_region 1 with fail
  generalize w.alloc (.cells (pkC p) 30) = w1 at *
  obtain ⟨A, ⟨c0, c1', c2', c3', c20, c37, c38, c39, c40, c41, c42, c43, c44, c45⟩, PN, BW⟩ := DD.out _ B0.out; rw [ex] at c45; rw [eo] at c44; replace A := hid A; replace BW := hid BW; replace PN := hid PN
  have w' := w1
  go_wp2_with (first
    | go_skip
    | ((with_reducible show wpList _ _ _ _ _ _); (refine wpList_load_pk (by rfl) _ rfl _ p rfl A.out H1.out.len H2.out.len ?_))
    | (go_at_call 44; refine (w16_own _ wb _ _ _ _ WW.out (by omega) (by omega) (by simp only [List.length_append, be_length, List.length_nil]; have := ON.out; omega)).mono ?_; rintro en w' ⟨rfl, hW, hb⟩; replace WW := hid hW; replace B0 := hid (B0.out.trans (hb.mono LE.out)); clear hW hb; clear A c0 c1' c2' c3' c20 c37 c38 c39 c40 c41 c42 c43 c44 c45 BW PN; obtain ⟨A, ⟨c0, c1', c2', c3', c20, c37, c38, c39, c40, c41, c42, c43, c44, c45⟩, PN, BW⟩ := DD.out _ B0.out; rw [ex] at c45; rw [eo] at c44; replace A := hid A; replace BW := hid BW; replace PN := hid PN)
    | (go_at_call 43; refine (w8_own _ wb _ _ _ _ WW.out (by omega) (by omega) (by simp only [List.length_append, be_length, List.length_nil]; have := ON.out; omega)).mono ?_; rintro en w' ⟨rfl, hW, hb⟩; replace WW := hid hW; replace B0 := hid (B0.out.trans (hb.mono LE.out)); clear hW hb; clear A c0 c1' c2' c3' c20 c37 c38 c39 c40 c41 c42 c43 c44 c45 BW PN; obtain ⟨A, ⟨c0, c1', c2', c3', c20, c37, c38, c39, c40, c41, c42, c43, c44, c45⟩, PN, BW⟩ := DD.out _ B0.out; rw [ex] at c45; rw [eo] at c44; replace A := hid A; replace BW := hid BW; replace PN := hid PN)
    | (go_at_call 46
       first
       | (refine (wBytes_own _ wb _ (p.sB.take 4) _ _ _ WW.out (by have h := pk_src_rb A.out H1.out (n := 4) (by decide); exact h) (fun _ b hb => by have := LE.out; have := HZ.out; simp [Value.ownBlock] at hb; omega) (by simp only [List.length_append, be_length, List.length_take, hl1, List.length_nil]; have := ON.out; omega) (by simp; omega)).mono ?_; rintro en w' ⟨rfl, hW, hb⟩; replace WW := hid hW; replace B0 := hid (B0.out.trans (hb.mono LE.out)); clear hW hb; clear A c0 c1' c2' c3' c20 c37 c38 c39 c40 c41 c42 c43 c44 c45 BW PN; obtain ⟨A, ⟨c0, c1', c2', c3', c20, c37, c38, c39, c40, c41, c42, c43, c44, c45⟩, PN, BW⟩ := DD.out _ B0.out; rw [ex] at c45; rw [eo] at c44; replace A := hid A; replace BW := hid BW; replace PN := hid PN)
       | (refine (wBytes_own _ wb _ (p.dB.take 4) _ _ _ WW.out (by have h := pk_dst_rb A.out hl1 H2.out (n := 4) (by decide); exact h) (fun _ b hb => by have := LE.out; have := HZ.out; simp [Value.ownBlock] at hb; omega) (by simp only [List.length_append, be_length, List.length_take, hl1, hl2, List.length_nil]; have := ON.out; omega) (by simp; omega)).mono ?_; rintro en w' ⟨rfl, hW, hb⟩; replace WW := hid hW; replace B0 := hid (B0.out.trans (hb.mono LE.out)); clear hW hb; clear A c0 c1' c2' c3' c20 c37 c38 c39 c40 c41 c42 c43 c44 c45 BW PN; obtain ⟨A, ⟨c0, c1', c2', c3', c20, c37, c38, c39, c40, c41, c42, c43, c44, c45⟩, PN, BW⟩ := DD.out _ B0.out; rw [ex] at c45; rw [eo] at c44; replace A := hid A; replace BW := hid BW; replace PN := hid PN)
       | (refine (wBytes_own _ wb _ os _ _ _ WW.out (by rw [← eo]; exact PN.out.oR) (fun hne b hb => by have := LE.out; have := HZ.out; have := OB.out b hne (by rw [eo]; exact hb); omega) (by simp only [List.length_append, be_length, List.length_take, hl1, hl2, List.length_nil]; have := ON.out; omega) (by omega)).mono ?_; rintro en w' ⟨rfl, hW, hb⟩; replace WW := hid hW; replace B0 := hid (B0.out.trans (hb.mono LE.out)); clear hW hb; clear A c0 c1' c2' c3' c20 c37 c38 c39 c40 c41 c42 c43 c44 c45 BW PN; obtain ⟨A, ⟨c0, c1', c2', c3', c20, c37, c38, c39, c40, c41, c42, c43, c44, c45⟩, PN, BW⟩ := DD.out _ B0.out; rw [ex] at c45; rw [eo] at c44; replace A := hid A; replace BW := hid BW; replace PN := hid PN; replace WW := hid (WW.out.eqL LH.out))
       | (refine (wBytes_own _ wb _ xs _ _ _ WW.out (by rw [← ex]; exact PN.out.xR) (fun hne b hb => by have := LE.out; have := HZ.out; have := XB.out b hne (by rw [ex]; exact hb); omega) (by simp only [List.length_set, lh]; have := ON.out; omega) (by omega)).mono ?_; rintro en w' ⟨rfl, hW, hb⟩; replace WW := hid hW; replace B0 := hid (B0.out.trans (hb.mono LE.out)); clear hW hb; clear A c0 c1' c2' c3' c20 c37 c38 c39 c40 c41 c42 c43 c44 c45 BW PN; obtain ⟨A, ⟨c0, c1', c2', c3', c20, c37, c38, c39, c40, c41, c42, c43, c44, c45⟩, PN, BW⟩ := DD.out _ B0.out; rw [ex] at c45; rw [eo] at c44; replace A := hid A; replace BW := hid BW; replace PN := hid PN; replace WW := hid (WW.out.eqL LB.out.symm)))
    | (go_at_call 47
       first
       | (refine (wOut_own _ wb H0 _ _ WW.out).mono ?_; rintro en w' ⟨v8, rfl, ho, hb⟩; have HB := hid (Rb.of_own yh.out ho); replace WW := hid (WW.out.below hb); replace B0 := hid (B0.out.trans (hb.mono B0.out.size)); clear ho hb; clear A c0 c1' c2' c3' c20 c37 c38 c39 c40 c41 c42 c43 c44 c45 BW PN; obtain ⟨A, ⟨c0, c1', c2', c3', c20, c37, c38, c39, c40, c41, c42, c43, c44, c45⟩, PN, BW⟩ := DD.out _ B0.out; rw [ex] at c45; rw [eo] at c44; replace A := hid A; replace BW := hid BW; replace PN := hid PN)
       | (refine (wOut_own _ wb r _ _ WW.out).mono ?_; rintro en w' ⟨v9, rfl, ho, hb⟩; have BF := hid (BW.out.trans (hb.mono BW.out.size)); have HO := hid (own_base ho BW.out.size); clear ho hb))
    | (go_at_call 49; refine (of_any _ H0 _ HB.out (by rw [lh]; have := ON.out; omega)).mono ?_; rw [← SM.out]; rintro en w' ⟨rfl, hd2⟩; have hb := hd2.below w'.heap.size; replace WW := hid (WW.out.below (hd2.below _)); replace B0 := hid (B0.out.trans (hd2.below _)); clear hb hd2; clear A c0 c1' c2' c3' c20 c37 c38 c39 c40 c41 c42 c43 c44 c45 BW PN; obtain ⟨A, ⟨c0, c1', c2', c3', c20, c37, c38, c39, c40, c41, c42, c43, c44, c45⟩, PN, BW⟩ := DD.out _ B0.out; rw [ex] at c45; rw [eo] at c44; replace A := hid A; replace BW := hid BW; replace PN := hid PN)
    | (go_at_call 48; refine (wPut16_own _ wb H0 _ 10 sm _ WW.out (by decide) (by rw [lh]; omega) hs.1 hs.2).mono ?_; rintro en w' ⟨rfl, hW, hb⟩; replace WW := hid hW; replace B0 := hid (B0.out.trans (hb.mono LE.out)); clear hW hb; clear A c0 c1' c2' c3' c20 c37 c38 c39 c40 c41 c42 c43 c44 c45 BW PN; obtain ⟨A, ⟨c0, c1', c2', c3', c20, c37, c38, c39, c40, c41, c42, c43, c44, c45⟩, PN, BW⟩ := DD.out _ B0.out; rw [ex] at c45; rw [eo] at c44; replace A := hid A; replace BW := hid BW; replace PN := hid PN)
    | (go_at_call 22; refine (R.out _ BW.out PN.out).mono ?_; rintro en w' ⟨rfl, hb⟩; replace B0 := hid (B0.out.trans (hb.mono B0.out.size)); clear hb; clear A c0 c1' c2' c3' c20 c37 c38 c39 c40 c41 c42 c43 c44 c45 BW PN; obtain ⟨A, ⟨c0, c1', c2', c3', c20, c37, c38, c39, c40, c41, c42, c43, c44, c45⟩, PN, BW⟩ := DD.out _ B0.out; rw [ex] at c45; rw [eo] at c44; replace A := hid A; replace BW := hid BW; replace PN := hid PN)
    | (go_at_call 45; refine (FL.out _).mono ?_; rintro en w' ⟨rfl, hb⟩; replace WW := hid (WW.out.below hb); replace B0 := hid (B0.out.trans (hb.mono B0.out.size)); clear hb; clear A c0 c1' c2' c3' c20 c37 c38 c39 c40 c41 c42 c43 c44 c45 BW PN; obtain ⟨A, ⟨c0, c1', c2', c3', c20, c37, c38, c39, c40, c41, c42, c43, c44, c45⟩, PN, BW⟩ := DD.out _ B0.out; rw [ex] at c45; rw [eo] at c44; replace A := hid A; replace BW := hid BW; replace PN := hid PN)
    | (go_at_call 42; refine (wnew_own 65575 _ (by decide) (by decide)).mono ?_; rintro en w' ⟨wb, rfl, hW, hb⟩; have WW := hid hW; have LE := hid B0.out.size; replace B0 := hid (B0.out.trans (hb.mono B0.out.size)); clear hW hb; clear A c0 c1' c2' c3' c20 c37 c38 c39 c40 c41 c42 c43 c44 c45 BW PN; obtain ⟨A, ⟨c0, c1', c2', c3', c20, c37, c38, c39, c40, c41, c42, c43, c44, c45⟩, PN, BW⟩ := DD.out _ B0.out; rw [ex] at c45; rw [eo] at c44; replace A := hid A; replace BW := hid BW; replace PN := hid PN))
  go_ret2
  exact ⟨v9, rfl, HO.out, BF.out⟩
theorem build4_any (p : Pk) (os xs : List Int) (w : World) (h : Pin w p os xs) (hT : Tab w) (hl : os.length ≤ 140737488355328 ∧ xs.length ≤ 140737488355328) : Calls Tryd.prog 18 #[.agg (pkC p)] w (B6Post (if right4 p os xs.length = true then 0 else 1) (if right4 p os xs.length = true then b4L p os xs else []) w) := by
  cases hr : right4 p os xs.length
  · exact build4_no p os xs w h hT hl hr
  · exact build4_yes p os xs w h hT hr
end Go.Proofs.YtaecfcaeopmiaaaDoor
