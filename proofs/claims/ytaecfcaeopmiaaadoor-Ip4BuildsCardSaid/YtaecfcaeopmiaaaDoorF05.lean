/-
  What the rows of chapter 5 hand in: the table of shapes as its text lays it. (Lines of chapter 4's text turned.)
-/
import Derived.Test.YtaecfcaeopmiaaaDoorOpenP
import Derived.Test.YtaecfcaeopmiaaaDoorO04
import Derived.Test.YtaecfcaeopmiaaaDoorCards
import Derived.Test.YtaecfcaeopmiaaaDoorTie
import Derived.Deep.Slices
import Derived.Deep.DeepHandedRow
import Derived.Lib.LaidTab
import Derived.JoinedCond
namespace Go.Proofs.YtaecfcaeopmiaaaDoor
open Go.ChangeShapes Go.WideShapes Go.ChangeAt Go.RowKit Go.Deep

theorem gTab : Tryd.prog.globalNamed "mosaic/opts.shapes" = some 0 := by kernel_rfl
theorem gTabType : (Tryd.prog.globals[0]?).map (·.type) = some 106 := by kernel_rfl
theorem cellsTab : Tryd.prog.cellsOf 106 = 2 := by kernel_rfl
theorem cellsInt : Tryd.prog.cellsOf 3 = 1 := by kernel_rfl
theorem tab_of {W : World} (h : laidMetH Tryd.prog Rows.ip4BackRow.laid W) : Tab W := by
  have t : Lib.TabIs Tryd.prog W "mosaic/opts.shapes" .i64 [1, 2] := Lib.tabIs_of_head (rest := []) gTab gTabType Tryd.underlying106 Tryd.underlying3 cellsInt cellsTab h
  exact ⟨t.cell gTab 0 (by decide), t.cell gTab 1 (by decide)⟩
/-- a world for the witness: the settled one, the table holding what its initialiser lays -/
noncomputable def laidWorld (os : Os) : World :=
  { World.holding Tryd.prog os ⟨#[], #[], []⟩ with heap := (World.holding Tryd.prog os ⟨#[], #[], []⟩).heap.modify 0 fun
      | .cells _ t frozen => .cells #[.int .i64 1, .int .i64 2] t frozen
      | o => o }
end Go.Proofs.YtaecfcaeopmiaaaDoor
