/-
  mosaicref07: pair, most, head, Pseudo.
-/
import Derived.Test.YtpiafmnfneefiaaUdpR
import Derived.Test.YtpiafmnfneefiaaCat
namespace Go.Proofs.Ytpiafmnfneefiaa
open Go.RowKit

theorem pairA_comm (V : Int) (bs : List Int) (V2 : Int) (bs2 : List Int) : pairA V bs V2 bs2 = (validA V bs && validA V2 bs2 && decide (V = V2)) := by
  unfold pairA; cases validA V bs <;> cases validA V2 bs2 <;> cases decide (V = V2) <;> rfl
set_option maxHeartbeats 1600000 in
theorem refPair_any (V : Int) (bs : List Int) (V2 : Int) (bs2 : List Int) (w : World) (h : IsA V bs) (h2 : IsA V2 bs2) : Calls Try.prog 26 #[addrV V bs, addrV V2 bs2] w (APost w (.bool (pairA V bs V2 bs2))) := by
  have H := hid h
  have H2 := hid h2
  obtain ⟨a1, a2, bb⟩ := two_addr w V bs V2 bs2
  have A1 := hid a1
  have A2 := hid a2
  have BB := hid bb
  have B1 := fun W => refValid_any V bs W h
  have B2 := fun W => refValid_any V2 bs2 W h2
  rw [pairA_comm]
  generalize validA V bs = v1 at *
  generalize validA V2 bs2 = v2 at *
  have B1 := hid B1
  have B2 := hid B2
  clear a1 a2 bb h h2
  have hsz : w.heap.size + 1 < ((w.alloc (.cells (addrC V bs) 24)).alloc (.cells (addrC V2 bs2) 24)).heap.size := by simp
  clear hsz
  unfold addrV at *
  go_enter Try.func26, Try.ntmps26
  go_upto_region 1 with fail
  generalize (w.alloc (.cells (addrC V bs) 24)).alloc (.cells (addrC V2 bs2) 24) = w1 at *
  go_wp2_with (refine wpList_load_addr rfl _ rfl _ _ _ rfl A1.out H.out.len ?_)
  refine (B1.out _).mono ?_
  rintro en w' ⟨rfl, hb⟩
  have BB2 := hid (BB.out.trans (hb.mono BB.out.size))
  have A12 := hid (A1.out.below hb)
  have A22 := hid (A2.out.below hb)
  clear hb
  cases v1
  · go_wp2_with fail
    go_ret
    exact ⟨rfl, BB2.out⟩
  · go_wp2_with (refine wpList_load_addr rfl _ rfl _ _ _ rfl A22.out H2.out.len ?_)
    refine (B2.out _).mono ?_
    rintro en w2 ⟨rfl, hb⟩
    have BB3 := hid (BB2.out.trans (hb.mono BB2.out.size))
    have c1 := (A12.out.below hb).v
    have c2 := (A22.out.below hb).v
    clear hb
    cases v2
    · go_wp2_with fail
      go_ret
      exact ⟨rfl, BB3.out⟩
    · by_cases hv : V = V2
      · have hd : (V == V2) = true := by simp [hv]
        have HD := hid (decide_eq_true hv)
        clear hv
        go_wp2_with fail
        go_ret
        exact ⟨by rw [HD.out]; rfl, BB3.out⟩
      · have hd : (V == V2) = false := by simp [hv]
        have HD := hid (decide_eq_false hv)
        clear hv
        go_wp2_with fail
        go_ret
        exact ⟨by rw [HD.out]; rfl, BB3.out⟩
theorem refMost_any (V : Int) (bs : List Int) (w : World) : Calls Try.prog 37 #[addrV V bs] w (APost w (.int .i64 (mostV V))) := by
  have A := hid (AddrAt.alloc w V bs)
  have c0 := A.out.v
  have BB := hid (bel_alloc w (.cells (addrC V bs) 24))
  unfold addrV
  by_cases h : V = 4
  · subst h
    go_enter Try.func37, Try.ntmps37
    go_upto_region 1 with fail
    generalize w.alloc (.cells (addrC 4 bs) 24) = w1 at *
    go_wp2_with fail
    go_ret
    exact ⟨rfl, BB.out⟩
  · have e := hid (show mostV V = 65527 by unfold mostV; rw [if_neg h])
    have hd : (V == 4) = false := by simp [h]
    clear h
    go_enter Try.func37, Try.ntmps37
    go_upto_region 1 with fail
    generalize w.alloc (.cells (addrC V bs) 24) = w1 at *
    go_wp2_with fail
    go_ret
    exact ⟨by rw [e.out]; rfl, BB.out⟩

def OwnPost (l : List Int) (w : World) (en : Ending) (w' : World) : Prop :=
  ∃ v, en = .returned v ∧ w'.ownsRow w.heap.size 5 1 v l.length (bts l) ∧ Below w.heap.size w w'
set_option maxHeartbeats 3200000 in
set_option maxRecDepth 20000 in
theorem refHead_any (V : Int) (bs : List Int) (V2 : Int) (bs2 : List Int) (proto n : Int) (w : World) (h : IsA V bs) (h2 : IsA V2 bs2) (hp : 0 ≤ proto ∧ proto ≤ 255) (hn : 0 ≤ n ∧ n ≤ 65535) :
    Calls Try.prog 28 #[addrV V bs, addrV V2 bs2, .int .i64 proto, .int .i64 n] w (OwnPost (headL V bs bs2 proto n) w) := by
  obtain ⟨i0, hi, hz0, hz1, hz2⟩ := info_parts Try.info5
  have H := hid h
  have H2 := hid h2
  obtain ⟨a1, a2, bb⟩ := two_addr w V bs V2 bs2
  have c1 := a1.v
  have A1 := hid a1
  have A2 := hid a2
  have BB := hid bb
  have hn1 : 0 ≤ n / 256 ∧ n / 256 ≤ 255 := by omega
  have hn2 : 0 ≤ n % 256 ∧ n % 256 ≤ 255 := by omega
  clear a1 a2 bb h h2
  unfold addrV
  go_enter Try.func28, Try.ntmps28
  go_upto_region 1 with fail
  generalize (w.alloc (.cells (addrC V bs) 24)).alloc (.cells (addrC V2 bs2) 24) = w1 at *
  have hws := BB.out.size
  by_cases h4 : V = 4
  · subst h4
    have R1 := hid (addr_rb A1.out H.out (n := 4) (by omega))
    have R2 := hid (addr_rb A2.out H2.out (n := 4) (by omega))
    have L1 := hid (show (bs.take 4).length = 4 by have := H.out.len; simp; omega)
    have L2 := hid (show (bs2.take 4).length = 4 by have := H2.out.len; simp; omega)
    have HE := hid (show headL 4 bs bs2 proto n = bs.take 4 ++ bs2.take 4 ++ [0, proto, n / 256, n % 256] by unfold headL; rw [if_pos rfl])
    generalize bs.take 4 = d1 at *
    generalize bs2.take 4 = d2 at *
    have O0 := hid (OwnB.nil (base := w1.heap.size) (w := w1) (Nat.le_refl _))
    have hl1 := L1.out
    have hl2 := L2.out
    have W1 : IntKind.u8.wrap proto = proto := IntWalk.u8_in _ hp
    go_wp2_with (first | (at_builtin; refine wpList_cat rfl _ _ rfl w1.heap.size (.slice none 0 0) [] rfl O0.out _ d1 rfl R1.out 4 (by simp [hl1]) (by omega) ?_; intro a3 c3 w3 hO hB hat; have O3 := hid hO; have B3 := hid hB; have R23 := hid (R2.out.below hB); clear hat hO hB) | (at_builtin; refine wpList_cat rfl _ _ rfl w1.heap.size (.slice a3 4 c3) _ rfl O3.out _ d2 rfl R23.out 8 (by simp [hl1, hl2]) (by omega) ?_; intro a4 c4 w4 hO hB hat; have O4 := hid hO; have B4 := hid (B3.out.trans hB); clear hat hO hB) | (at_builtin; refine wpList_cat rfl _ _ rfl w1.heap.size (.slice a4 8 c4) _ rfl (O4.out.alloc _) _ [0, proto, n / 256, n % 256] rfl (rb_lit ((byt_two (by omega) hp).append (byt_two hn1 hn2)) rfl rfl (by decide)) 12 (by simp [hl1, hl2]) (by omega) ?_; intro a5 c5 w5 hO hB hat; have O5 := hid hO; have B5 := hid ((B4.out.alloc B4.out.size _).trans hB); clear hat hO hB))
    go_ret
    refine ⟨_, rfl, ?_, BB.out.trans (B5.out.mono hws)⟩
    have := own_base O5.out.own hws
    rw [HE.out]
    rw [show (d1 ++ d2 ++ [0, proto, n / 256, n % 256]).length = 12 by simp [hl1, hl2]]
    have e : ([] ++ d1 ++ d2 ++ [0, proto, n / 256, n % 256] : List Int).length = 12 := by simp [hl1, hl2]
    rw [e] at this
    exact this
  · have hd4 : (V == 4) = false := by simp [h4]
    have R1 := hid (addr_rb A1.out H.out (n := 16) (by omega))
    have R2 := hid (addr_rb A2.out H2.out (n := 16) (by omega))
    rw [List.take_of_length_le (by have := H.out.len; omega)] at R1
    rw [List.take_of_length_le (by have := H2.out.len; omega)] at R2
    have hl1 := H.out.len
    have hl2 := H2.out.len
    have HE := hid (show headL V bs bs2 proto n = bs ++ bs2 ++ [0, 0, n / 256, n % 256, 0, 0, 0, proto] by unfold headL; rw [if_neg h4])
    have O0 := hid (OwnB.nil (base := w1.heap.size) (w := w1) (Nat.le_refl _))
    have W1 : IntKind.u8.wrap proto = proto := IntWalk.u8_in _ hp
    clear h4
    go_wp2_with (first | (at_builtin; refine wpList_cat rfl _ _ rfl w1.heap.size (.slice none 0 0) [] rfl O0.out _ bs rfl R1.out 16 (by simp [hl1]) (by omega) ?_; intro a3 c3 w3 hO hB hat; have O3 := hid hO; have B3 := hid hB; have R23 := hid (R2.out.below hB); clear hat hO hB) | (at_builtin; refine wpList_cat rfl _ _ rfl w1.heap.size (.slice a3 16 c3) _ rfl O3.out _ bs2 rfl R23.out 32 (by simp [hl1, hl2]) (by omega) ?_; intro a4 c4 w4 hO hB hat; have O4 := hid hO; have B4 := hid (B3.out.trans hB); clear hat hO hB) | (at_builtin; refine wpList_cat rfl _ _ rfl w1.heap.size (.slice a4 32 c4) _ rfl (O4.out.alloc _) _ [0, 0, n / 256, n % 256, 0, 0, 0, proto] rfl (rb_lit ((byt_two (by omega) (by omega)).append ((byt_two hn1 hn2).append ((byt_two (by omega) (by omega)).append (byt_two (by omega) hp)))) rfl rfl (by decide)) 40 (by simp [hl1, hl2]) (by omega) ?_; intro a5 c5 w5 hO hB hat; have O5 := hid hO; have B5 := hid ((B4.out.alloc B4.out.size _).trans hB); clear hat hO hB))
    go_ret
    refine ⟨_, rfl, ?_, BB.out.trans (B5.out.mono hws)⟩
    have := own_base O5.out.own hws
    rw [HE.out]
    rw [show (bs ++ bs2 ++ [0, 0, n / 256, n % 256, 0, 0, 0, proto]).length = 40 by simp [hl1, hl2]]
    have e : ([] ++ bs ++ bs2 ++ [0, 0, n / 256, n % 256, 0, 0, 0, proto] : List Int).length = 40 := by simp [hl1, hl2]
    rw [e] at this
    exact this

def RefPsPost (r e : Int) (w : World) (en : Ending) (w' : World) : Prop := en = .returned (.tuple #[.int .i64 r, .int .i64 e]) ∧ Below w.heap.size w w'
set_option maxHeartbeats 3200000 in
set_option maxRecDepth 20000 in
theorem refPseudo_any (V : Int) (bs : List Int) (V2 : Int) (bs2 : List Int) (proto n : Int) (w : World) (h : IsA V bs) (h2 : IsA V2 bs2) :
    Calls Try.prog 11 #[addrV V bs, addrV V2 bs2, .int .i64 proto, .int .i64 n] w (RefPsPost (if pseOk V bs V2 bs2 proto n = true then partL (headL V bs bs2 proto n) else 0) (if pseOk V bs V2 bs2 proto n = true then 0 else 1) w) := by
  have H := hid h
  have H2 := hid h2
  obtain ⟨a1, a2, bb⟩ := two_addr w V bs V2 bs2
  have A1 := hid a1
  have A2 := hid a2
  have BB := hid bb
  have P := fun W => refPair_any V bs V2 bs2 W h h2
  by_cases hok : pseOk V bs V2 bs2 proto n = true
  · obtain ⟨hp, hpr, hn⟩ := pseOk_parts hok
    rw [if_pos hok, if_pos hok]
    rw [hp] at P
    have P := hid P
    have HD := fun W => refHead_any V bs V2 bs2 proto n W h h2 hpr hn
    have HB := hid (headL_byt (V := V) h.byt h2.byt hpr hn)
    have HLn := headL_len V proto n h.len h2.len
    generalize headL V bs bs2 proto n = hl at *
    have HD := hid HD
    have HLn := hid HLn
    clear a1 a2 bb h h2 hok hp
    have hd1 : decide (proto < 0) = false := by simp; omega
    have hd2 : decide (255 < proto) = false := by simp; omega
    have hd3 : decide (n < 0) = false := by simp; omega
    have hd4 : decide (65535 < n) = false := by simp; omega
    unfold addrV at *
    go_enter Try.func11, Try.ntmps11
    go_upto_region 1 with fail
    generalize (w.alloc (.cells (addrC V bs) 24)).alloc (.cells (addrC V2 bs2) 24) = w1 at *
    go_wp2_with (first | (refine wpList_load_addr rfl _ rfl _ _ _ rfl A1.out H.out.len ?_) | (refine wpList_load_addr rfl _ rfl _ _ _ rfl A2.out H2.out.len ?_))
    refine (P.out _).mono ?_
    rintro en w' ⟨rfl, hb⟩
    have BB2 := hid (BB.out.trans (hb.mono BB.out.size))
    have A12 := hid (A1.out.below hb)
    have A22 := hid (A2.out.below hb)
    clear hb A1 A2
    go_wp2_with (first | (refine wpList_load_addr rfl _ rfl _ _ _ rfl A12.out H.out.len ?_) | (refine wpList_load_addr rfl _ rfl _ _ _ rfl A22.out H2.out.len ?_))
    refine (HD.out _).mono ?_
    rintro en w2 ⟨v2, rfl, ho, hb⟩
    have RB := hid (Rb.of_own HB.out ho)
    have BB3 := hid (BB2.out.trans (hb.mono BB2.out.size))
    clear ho hb
    go_wp2_with fail
    refine (refPart_any _ hl _ RB.out (by have := HLn.out; omega)).mono ?_
    rintro en w3 ⟨rfl, rfl⟩
    go_wp2_with fail
    go_ret2
    exact ⟨rfl, BB3.out⟩
  · rw [if_neg hok, if_neg hok]
    have hok' : pseOk V bs V2 bs2 proto n = false := by simpa using hok
    clear hok
    unfold pseOk at hok'
    generalize pairA V bs V2 bs2 = vp at *
    have P := hid P
    clear a1 a2 bb h h2
    unfold addrV at *
    go_enter Try.func11, Try.ntmps11
    go_upto_region 1 with fail
    generalize (w.alloc (.cells (addrC V bs) 24)).alloc (.cells (addrC V2 bs2) 24) = w1 at *
    go_wp2_with (first | (refine wpList_load_addr rfl _ rfl _ _ _ rfl A1.out H.out.len ?_) | (refine wpList_load_addr rfl _ rfl _ _ _ rfl A2.out H2.out.len ?_))
    refine (P.out _).mono ?_
    rintro en w' ⟨rfl, hb⟩
    have BB2 := hid (BB.out.trans (hb.mono BB.out.size))
    clear hb
    cases vp
    · clear hok'
      go_wp2_with fail
      go_ret2
      exact ⟨rfl, BB2.out⟩
    · by_cases q1 : proto < 0
      · have hd : decide (proto < 0) = true := decide_eq_true q1
        clear hok' q1
        go_wp2_with fail
        go_ret2
        exact ⟨rfl, BB2.out⟩
      · have hd : decide (proto < 0) = false := decide_eq_false q1
        by_cases q2 : 255 < proto
        · have hd2 : decide (255 < proto) = true := decide_eq_true q2
          clear hok' q1 q2
          go_wp2_with fail
          go_ret2
          exact ⟨rfl, BB2.out⟩
        · have hd2 : decide (255 < proto) = false := decide_eq_false q2
          by_cases q3 : n < 0
          · have hd3 : decide (n < 0) = true := decide_eq_true q3
            clear hok' q1 q2 q3
            go_wp2_with fail
            go_ret2
            exact ⟨rfl, BB2.out⟩
          · have hd3 : decide (n < 0) = false := decide_eq_false q3
            have q4 : 65535 < n := by
              have h1 : 0 ≤ proto := by omega
              have h2 : proto ≤ 255 := by omega
              have h3 : 0 ≤ n := by omega
              simp [h1, h2, h3] at hok'
              exact hok'
            have hd4 : decide (65535 < n) = true := decide_eq_true q4
            clear hok' q1 q2 q3 q4
            go_wp2_with fail
            go_ret2
            exact ⟨rfl, BB2.out⟩

end Go.Proofs.Ytpiafmnfneefiaa
