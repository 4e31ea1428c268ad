/-
  Numbers by their bytes, written out.
-/
import Derived.Test.YtaecfcaeopmiaaaDoorU2
namespace Go.Proofs.YtaecfcaeopmiaaaDoor
open Go.RowKit

theorem be2' {v : Int} (h0 : 0 ≤ v) (h1 : v ≤ 65535) : be 2 v = [v / 256, v % 256] := by simp [be]; omega
theorem be1' {v : Int} (h0 : 0 ≤ v) (h1 : v ≤ 255) : be 1 v = [v] := by simp [be]; omega
theorem be4' {v : Int} (h0 : 0 ≤ v) (h1 : v ≤ 4294967295) : be 4 v = [v / 16777216, v / 65536 % 256, v / 256 % 256, v % 256] := by simp [be]; omega
end Go.Proofs.YtaecfcaeopmiaaaDoor
