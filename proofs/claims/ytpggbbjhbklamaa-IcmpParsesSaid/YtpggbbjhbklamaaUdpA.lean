/-
  package udp: pair, port, most, Pseudo, whole.
-/
import Derived.Test.YtpggbbjhbklamaaAddr
import Derived.Test.YtpggbbjhbklamaaSum
import Derived.Test.YtpggbbjhbklamaaRegion
namespace Go.Proofs.Ytpggbbjhbklamaa
open Go.RowKit

def pairA (V : Int) (bs : List Int) (V2 : Int) (bs2 : List Int) : Bool := decide (V = V2) && validA V bs && validA V2 bs2
theorem two_addr (w : World) (V : Int) (bs : List Int) (V2 : Int) (bs2 : List Int) :
    AddrAt ((w.alloc (.cells (addrC V bs) 24)).alloc (.cells (addrC V2 bs2) 24)) w.heap.size V bs ∧
    AddrAt ((w.alloc (.cells (addrC V bs) 24)).alloc (.cells (addrC V2 bs2) 24)) (w.heap.size + 1) V2 bs2 ∧
    Below w.heap.size w ((w.alloc (.cells (addrC V bs) 24)).alloc (.cells (addrC V2 bs2) 24)) := by
  refine ⟨(AddrAt.alloc w V bs).below (bel_alloc _ _), ?_, (bel_alloc w _).trans ((bel_alloc _ _).mono (by simp))⟩
  have := AddrAt.alloc (w.alloc (.cells (addrC V bs) 24)) V2 bs2
  simpa using this
set_option maxHeartbeats 1600000 in
theorem pair_any (V : Int) (bs : List Int) (V2 : Int) (bs2 : List Int) (w : World) (h : IsA V bs) (h2 : IsA V2 bs2) : Calls Try.prog 53 #[addrV V bs, addrV V2 bs2] w (APost w (.bool (pairA V bs V2 bs2))) := by
  have H := hid h
  have H2 := hid h2
  obtain ⟨a1, a2, bb⟩ := two_addr w V bs V2 bs2
  have A1 := hid a1
  have A2 := hid a2
  have BB := hid bb
  have c1 := a1.v
  have c2 := a2.v
  have B1 := fun W => valid_any V bs W h
  have B2 := fun W => valid_any V2 bs2 W h2
  unfold pairA
  generalize validA V bs = v1 at *
  generalize validA V2 bs2 = v2 at *
  have B1 := hid B1
  have B2 := hid B2
  clear a1 a2 bb h h2
  have hsz : w.heap.size + 1 < ((w.alloc (.cells (addrC V bs) 24)).alloc (.cells (addrC V2 bs2) 24)).heap.size := by simp
  have HSZ := hid hsz
  clear hsz
  unfold addrV at *
  by_cases hv : V = V2
  · rw [decide_eq_true hv]
    subst hv
    cases v1
    · go_enter Try.func53, Try.ntmps53
      go_upto_region 1 with fail
      generalize (w.alloc (.cells (addrC V bs) 24)).alloc (.cells (addrC V bs2) 24) = w1 at *
      go_wp2_with (refine wpList_load_addr rfl _ rfl _ _ _ rfl A1.out H.out.len ?_)
      refine (B1.out _).mono ?_
      rintro en w' ⟨rfl, hb⟩
      have BB2 := hid (BB.out.trans (hb.mono BB.out.size))
      clear hb
      go_wp2_with fail
      go_ret
      exact ⟨rfl, BB2.out⟩
    · go_enter Try.func53, Try.ntmps53
      go_upto_region 1 with fail
      generalize (w.alloc (.cells (addrC V bs) 24)).alloc (.cells (addrC V bs2) 24) = w1 at *
      go_wp2_with (refine wpList_load_addr rfl _ rfl _ _ _ rfl A1.out H.out.len ?_)
      refine (B1.out _).mono ?_
      rintro en w' ⟨rfl, hb⟩
      have BB2 := hid (BB.out.trans (hb.mono BB.out.size))
      have A22 := hid (A2.out.below hb)
      clear hb
      cases v2
      all_goals
        go_wp2_with (refine wpList_load_addr rfl _ rfl _ _ _ rfl A22.out H2.out.len ?_)
        refine (B2.out _).mono ?_
        rintro en w' ⟨rfl, hb⟩
        have BB3 := hid (BB2.out.trans (hb.mono BB2.out.size))
        clear hb
        go_wp2_with fail
        go_ret
        exact ⟨rfl, BB3.out⟩
  · rw [decide_eq_false hv]
    have hd : (V == V2) = false := by simp [hv]
    clear hv
    go_enter Try.func53, Try.ntmps53
    go_upto_region 1 with fail
    generalize (w.alloc (.cells (addrC V bs) 24)).alloc (.cells (addrC V2 bs2) 24) = w1 at *
    go_wp2_with fail
    go_ret
    exact ⟨rfl, BB.out⟩

def mostV (V : Int) : Int := if V = 4 then 65507 else 65527
/-! ### the pseudo-header -/
def kA (V : Int) : Nat := if V = 4 then 4 else 16
def headL (V : Int) (bs bs2 : List Int) (proto n : Int) : List Int :=
  if V = 4 then bs.take 4 ++ bs2.take 4 ++ [0, proto, n / 256, n % 256] else bs ++ bs2 ++ [0, 0, n / 256, n % 256, 0, 0, 0, proto]
theorem headL_byt {V : Int} {bs bs2 : List Int} {proto n : Int} (h : Byt bs) (h2 : Byt bs2) (hp : 0 ≤ proto ∧ proto ≤ 255) (hn : 0 ≤ n ∧ n ≤ 65535) : Byt (headL V bs bs2 proto n) := by
  unfold headL
  split
  · refine ((h.take _).append (h2.take _)).append ?_
    intro x hx
    simp at hx
    omega
  · refine (h.append h2).append ?_
    intro x hx
    simp at hx
    omega
theorem pseu_eq {V : Int} {bs bs2 : List Int} {proto n : Int} (h : Byt bs) (h2 : Byt bs2) (hl : bs.length = 16) (hl2 : bs2.length = 16) (hp : 0 ≤ proto ∧ proto ≤ 255) (hn : 0 ≤ n ∧ n ≤ 65535) :
    foldL (foldL (foldL (partL (bs.take (kA V)) + partL (bs2.take (kA V))) + proto) + n) = partL (headL V bs bs2 proto n) := by
  have key : ∀ (a b c : List Int), Byt a → Byt b → a.length % 2 = 0 → b.length % 2 = 0 → wsum c = proto + n → foldL (foldL (foldL (partL a + partL b) + proto) + n) = partL (a ++ b ++ c) := by
    intro a b c ha hb hae hbe hc
    have w1 := (wsum_bd ha).1
    have w2 := (wsum_bd hb).1
    unfold partL
    rw [List.append_assoc, wsum_even a _ hae, wsum_even b _ hbe, hc]
    rw [foldL_add w1 (foldL_bd w2).1, foldL_add' w1 w2, foldL_add (by omega) hp.1, foldL_add (by omega) hn.1]
    congr 1
    omega
  unfold headL kA
  split
  · rw [key _ _ [0, proto, n / 256, n % 256] (h.take 4) (h2.take 4) (by simp; omega) (by simp; omega) (by simp [wsum]; omega)]
  · rw [List.take_of_length_le (by omega), List.take_of_length_le (by omega)]
    rw [key _ _ [0, 0, n / 256, n % 256, 0, 0, 0, proto] h h2 (by omega) (by omega) (by simp [wsum]; omega)]
theorem addr_rb {w : World} {b : Nat} {V : Int} {bs : List Int} (h : AddrAt w b V bs) (hA : IsA V bs) {n : Nat} (hn : n ≤ 16) : Rb w (.slice (some ⟨b, 1, none⟩) n 16) (bs.take n) := by
  have hl := hA.len
  have hlt : (bs.take n).length = n := by simp; omega
  refine ⟨hA.byt.take n, _, 16, by rw [hlt], by omega, by unfold maxLen; omega, (fun e => by cases e), fun j hj => ⟨b, 1, rfl, ?_⟩⟩
  rw [hlt] at hj
  rw [h.b (by omega)]
  congr 2
  simp only [gt, List.getD_eq_getElem?_getD, List.getElem?_take, if_pos hj]
def pseOk (V : Int) (bs : List Int) (V2 : Int) (bs2 : List Int) (proto n : Int) : Bool := pairA V bs V2 bs2 && decide (0 ≤ proto) && decide (proto ≤ 255) && decide (0 ≤ n) && decide (n ≤ 65535)
set_option maxHeartbeats 3200000 in
set_option maxRecDepth 20000 in
theorem pseudo_no (V : Int) (bs : List Int) (V2 : Int) (bs2 : List Int) (proto n : Int) (w : World) (h : IsA V bs) (h2 : IsA V2 bs2) (hok : pseOk V bs V2 bs2 proto n = false) :
    Calls Try.prog 44 #[addrV V bs, addrV V2 bs2, .int .i64 proto, .int .i64 n] w (APost w (.tuple #[.int .u16 0, .int .i64 1])) := by
  have H := hid h
  have H2 := hid h2
  obtain ⟨a1, a2, bb⟩ := two_addr w V bs V2 bs2
  have A1 := hid a1
  have A2 := hid a2
  have BB := hid bb
  have P := fun W => pair_any V bs V2 bs2 W h h2
  unfold pseOk at hok
  generalize pairA V bs V2 bs2 = vp at *
  have P := hid P
  clear a1 a2 bb h h2
  unfold addrV at *
  go_enter Try.func44, Try.ntmps44
  go_upto_region 1 with fail
  generalize (w.alloc (.cells (addrC V bs) 24)).alloc (.cells (addrC V2 bs2) 24) = w1 at *
  go_wp2_with (first | (refine wpList_load_addr rfl _ rfl _ _ _ rfl A1.out H.out.len ?_) | (refine wpList_load_addr rfl _ rfl _ _ _ rfl A2.out H2.out.len ?_))
  refine (P.out _).mono ?_
  rintro en w' ⟨rfl, hb⟩
  have BB2 := hid (BB.out.trans (hb.mono BB.out.size))
  clear hb
  cases vp
  · go_wp2_with fail
    go_ret2
    exact ⟨rfl, BB2.out⟩
  · by_cases q1 : proto < 0
    · have hd : decide (proto < 0) = true := decide_eq_true q1
      clear hok q1
      go_wp2_with fail
      go_ret2
      exact ⟨rfl, BB2.out⟩
    · have hd : decide (proto < 0) = false := decide_eq_false q1
      by_cases q2 : 255 < proto
      · have hd2 : decide (255 < proto) = true := decide_eq_true q2
        clear hok q1 q2
        go_wp2_with fail
        go_ret2
        exact ⟨rfl, BB2.out⟩
      · have hd2 : decide (255 < proto) = false := decide_eq_false q2
        by_cases q3 : n < 0
        · have hd3 : decide (n < 0) = true := decide_eq_true q3
          clear hok q1 q2 q3
          go_wp2_with fail
          go_ret2
          exact ⟨rfl, BB2.out⟩
        · have hd3 : decide (n < 0) = false := decide_eq_false q3
          have q4 : 65535 < n := by
            have h1 : 0 ≤ proto := by omega
            have h2 : proto ≤ 255 := by omega
            have h3 : 0 ≤ n := by omega
            simp [h1, h2, h3] at hok
            exact hok
          have hd4 : decide (65535 < n) = true := decide_eq_true q4
          clear hok q1 q2 q3 q4
          go_wp2_with fail
          go_ret2
          exact ⟨rfl, BB2.out⟩

end Go.Proofs.Ytpggbbjhbklamaa
