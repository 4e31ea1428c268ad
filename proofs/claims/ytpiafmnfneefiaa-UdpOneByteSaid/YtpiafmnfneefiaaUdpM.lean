/-
  The statement UdpPseudos, walked.
-/
import Derived.Test.YtpiafmnfneefiaaUdpL
namespace Go.Proofs.Ytpiafmnfneefiaa
open Go.RowKit

def psP (V : Int) (bs : List Int) (V2 : Int) (bs2 : List Int) (proto n : Int) : Int := if pseOk V bs V2 bs2 proto n = true then partL (headL V bs bs2 proto n) else 0
def psE (V : Int) (bs : List Int) (V2 : Int) (bs2 : List Int) (proto n : Int) : Int := if pseOk V bs V2 bs2 proto n = true then 0 else 1
theorem pseudo_any (V : Int) (bs : List Int) (V2 : Int) (bs2 : List Int) (proto n : Int) (w : World) (h : IsA V bs) (h2 : IsA V2 bs2) :
    Calls Try.prog 10 #[addrV V bs, addrV V2 bs2, .int .i64 proto, .int .i64 n] w (APost w (.tuple #[.int .u16 (psP V bs V2 bs2 proto n), .int .i64 (psE V bs V2 bs2 proto n)])) := by
  unfold psP psE
  by_cases hok : pseOk V bs V2 bs2 proto n = true
  · rw [if_pos hok, if_pos hok]; exact pseudo_yes V bs V2 bs2 proto n w h h2 hok
  · rw [if_neg hok, if_neg hok]; exact pseudo_no V bs V2 bs2 proto n w h h2 (by simpa using hok)
theorem psP_bd {V : Int} {bs : List Int} {V2 : Int} {bs2 : List Int} {proto n : Int} (h : IsA V bs) (h2 : IsA V2 bs2) : 0 ≤ psP V bs V2 bs2 proto n ∧ psP V bs V2 bs2 proto n ≤ 65535 := by
  unfold psP
  split
  · rename_i hok
    obtain ⟨_, hp, hn⟩ := pseOk_parts hok
    exact partL_bd (headL_byt (V := V) (proto := proto) (n := n) h.byt h2.byt hp hn)
  · omega
set_option maxHeartbeats 3200000 in
set_option maxRecDepth 20000 in
theorem udpPseudos_any (V : Int) (bs : List Int) (V2 : Int) (bs2 : List Int) (proto n : Int) (w : World) (h : IsA V bs) (h2 : IsA V2 bs2) :
    Calls Try.prog 3 #[addrV V bs, addrV V2 bs2, .int .i64 proto, .int .i64 n] w (APost w (.bool true)) := by
  have H := hid h
  have H2 := hid h2
  obtain ⟨a1, a2, bb⟩ := two_addr w V bs V2 bs2
  have A1 := hid a1
  have A2 := hid a2
  have BB := hid bb
  have P1 := fun W => pseudo_any V bs V2 bs2 proto n W h h2
  have P2 := fun W => (show Calls Try.prog 11 #[addrV V bs, addrV V2 bs2, .int .i64 proto, .int .i64 n] W (RefPsPost (psP V bs V2 bs2 proto n) (psE V bs V2 bs2 proto n) W) from refPseudo_any V bs V2 bs2 proto n W h h2)
  have hp := psP_bd (proto := proto) (n := n) h h2
  generalize psP V bs V2 bs2 proto n = p at *
  generalize psE V bs V2 bs2 proto n = e at *
  have P1 := hid P1
  have P2 := hid P2
  clear a1 a2 bb h h2
  unfold addrV at *
  go_enter Try.func3, Try.ntmps3
  go_upto_region 1 with fail
  generalize (w.alloc (.cells (addrC V bs) 24)).alloc (.cells (addrC V2 bs2) 24) = w1 at *
  go_wp2_with (first | (refine wpList_load_addr rfl _ rfl _ _ _ rfl A1.out H.out.len ?_) | (refine wpList_load_addr rfl _ rfl _ _ _ rfl A2.out H2.out.len ?_))
  refine (P1.out _).mono ?_
  rintro en w2 ⟨rfl, hb⟩
  have BB2 := hid (BB.out.trans (hb.mono BB.out.size))
  have A12 := hid (A1.out.below hb)
  have A22 := hid (A2.out.below hb)
  clear hb A1 A2 BB
  go_wp2_with (first | (refine wpList_load_addr rfl _ rfl _ _ _ rfl A12.out H.out.len ?_) | (refine wpList_load_addr rfl _ rfl _ _ _ rfl A22.out H2.out.len ?_))
  refine (P2.out _).mono ?_
  rintro en w3 ⟨rfl, hb⟩
  have BB3 := hid (BB2.out.trans (hb.mono BB2.out.size))
  clear hb A12 A22 BB2
  go_wp2_with fail
  refine (known_any _).mono ?_
  rintro en w4 ⟨rfl, hb⟩
  have BB4 := hid (BB3.out.trans (hb.mono BB3.out.size))
  clear hb BB3
  go_wp2_with fail
  go_ret
  exact ⟨rfl, BB4.out⟩

end Go.Proofs.Ytpiafmnfneefiaa
