/-
  NARROWER THAN 'FOR EVERY INPUT', by the rows' own cells (each row's printed sentence says how): Ip4Parses: laid · Ip4Builds: laid · Ip4Back: laid · Ip4Fields: laid · Ip4Turned: laid · Ip4Differ: laid · Ip4Refuses: laid · Ip4Memory: laid.
  DERIVED. THE GIVEN ROWS OF THIS SEAT. 8 by the template 'for every input the law returns true; each argument reads behind the call as it read before'; 0 by the template 'total and deterministic' (their statements: YtaecfcaeopmiaaaDoorTotals.lean).
  GIVEN WITH THE SEED: the statements are not yours to turn. If you find one false, say at which input.
  Laid BY PROGRAM, IN A SANDBOX (cutbox-rows.mjs): the forced cells as the released guide's own fill.sh prints them over the translation 5d4edfff9a48b961… (all of the seat's roots in one cut). By AI agents, Wed Nov 11 2026. No macro, syntax, notation, axiom, sorry.
-/
import Derived.Test.YtaecfcaeopmiaaaDoorChecked
import GoSem.Claim
import GoSem.ClaimJoined
import GoSem.ClaimMapViews
import Derived.JoinedTies
import Derived.KernelRfl
namespace Go.Proofs.YtaecfcaeopmiaaaDoor
/- THE CELL 'sum', in the pinned program and in every row, IS THE sha256 OF THE DUMP (.gsa) THAT YtaecfcaeopmiaaaDoorProg.lean LOADS. Nothing in Lean hashes anything: it is a label: what it is worth is what the hold of that sum in a sandbox is worth. -/
noncomputable def Tryd.pinned : Pinned := { name := "ytaecfcaeopmiaaadoor", sum := "5d4edfff9a48b96119e097480d8a4e982eeee72df62cfe68147c33a79388efdf", checked := Tryd.checked }
namespace Rows
def none {H : Type} : Left H := { results := [], args := [] }

/- WHAT THE LISTED PACKAGE-LEVEL VARIABLES READ AS WHEN THE CALL BEGINS. Each datum BY PROGRAM (the guide's laid-datum.mjs) off the statement by which the dump's own 'gosem.cut.vars' lays the variable. In a bare row this is a premise. The card (YtaecfcaeopmiaaaDoorCards.lean) ties it to the program's text. -/
def laid_mosaic_opts_shapes {H : Type} : DataW H := .agg [.lit (.int .i64 1), .lit (.int .i64 2)]

/-- 'mosaiclaw05.Ip4Parses': WHATEVER THE INPUT: true; the input reads as it did. -/
def ip4ParsesSpec : ChangeSpec := { name := "ip4Parses", fn := fun _ => fun
  | [d] => { results := [.lit (.bool true)], args := [d] }
  | _ => none }
def ip4ParsesRow : OpenClaim := { program := "ytaecfcaeopmiaaadoor", sum := "5d4edfff9a48b96119e097480d8a4e982eeee72df62cfe68147c33a79388efdf", func := "mosaic/mosaiclaw05.Ip4Parses", spec := "ip4Parses", unfollowed := true, recurses := true, named := ["mosaic/opts.shapes"], apart := false, laid := [("mosaic/opts.shapes", laid_mosaic_opts_shapes)] }
def Ip4ParsesSaid : Prop := ip4ParsesRow.holds Tryd.pinned (OpenSpec.ofChange ip4ParsesSpec)

/-- ITS FALSE NEIGHBOUR: 'it returns false'. Refute it at one input. -/
def ip4ParsesWrong : ChangeSpec := { name := "ip4Parses", fn := fun _ => fun
  | [d] => { results := [.lit (.bool false)], args := [d] }
  | _ => none }
def Ip4ParsesWrongFalsely : Prop := ip4ParsesRow.holds Tryd.pinned (OpenSpec.ofChange ip4ParsesWrong)

/-- 'mosaiclaw05.Ip4Builds': WHATEVER THE INPUT: true; the input reads as it did. -/
def ip4BuildsSpec : ChangeSpec := { name := "ip4Builds", fn := fun _ => fun
  | [d] => { results := [.lit (.bool true)], args := [d] }
  | _ => none }
def ip4BuildsRow : OpenClaim := { program := "ytaecfcaeopmiaaadoor", sum := "5d4edfff9a48b96119e097480d8a4e982eeee72df62cfe68147c33a79388efdf", func := "mosaic/mosaiclaw05.Ip4Builds", spec := "ip4Builds", unfollowed := true, recurses := true, named := ["mosaic/opts.shapes"], apart := false, laid := [("mosaic/opts.shapes", laid_mosaic_opts_shapes)] }
def Ip4BuildsSaid : Prop := ip4BuildsRow.holds Tryd.pinned (OpenSpec.ofChange ip4BuildsSpec)

/-- ITS FALSE NEIGHBOUR: 'it returns false'. Refute it at one input. -/
def ip4BuildsWrong : ChangeSpec := { name := "ip4Builds", fn := fun _ => fun
  | [d] => { results := [.lit (.bool false)], args := [d] }
  | _ => none }
def Ip4BuildsWrongFalsely : Prop := ip4BuildsRow.holds Tryd.pinned (OpenSpec.ofChange ip4BuildsWrong)

/-- 'mosaiclaw05.Ip4Back': WHATEVER THE INPUT: true; the input reads as it did. -/
def ip4BackSpec : ChangeSpec := { name := "ip4Back", fn := fun _ => fun
  | [d1, d2] => { results := [.lit (.bool true)], args := [d1, d2] }
  | _ => none }
def ip4BackRow : OpenClaim := { program := "ytaecfcaeopmiaaadoor", sum := "5d4edfff9a48b96119e097480d8a4e982eeee72df62cfe68147c33a79388efdf", func := "mosaic/mosaiclaw05.Ip4Back", spec := "ip4Back", unfollowed := true, recurses := true, named := ["mosaic/opts.shapes"], apart := false, laid := [("mosaic/opts.shapes", laid_mosaic_opts_shapes)] }
def Ip4BackSaid : Prop := ip4BackRow.holds Tryd.pinned (OpenSpec.ofChange ip4BackSpec)

/-- ITS FALSE NEIGHBOUR: 'it returns false'. Refute it at one input. -/
def ip4BackWrong : ChangeSpec := { name := "ip4Back", fn := fun _ => fun
  | [d1, d2] => { results := [.lit (.bool false)], args := [d1, d2] }
  | _ => none }
def Ip4BackWrongFalsely : Prop := ip4BackRow.holds Tryd.pinned (OpenSpec.ofChange ip4BackWrong)

/-- 'mosaiclaw05.Ip4Fields': WHATEVER THE INPUT: true; the input reads as it did. -/
def ip4FieldsSpec : ChangeSpec := { name := "ip4Fields", fn := fun _ => fun
  | [d] => { results := [.lit (.bool true)], args := [d] }
  | _ => none }
def ip4FieldsRow : OpenClaim := { program := "ytaecfcaeopmiaaadoor", sum := "5d4edfff9a48b96119e097480d8a4e982eeee72df62cfe68147c33a79388efdf", func := "mosaic/mosaiclaw05.Ip4Fields", spec := "ip4Fields", unfollowed := true, recurses := true, named := ["mosaic/opts.shapes"], apart := false, laid := [("mosaic/opts.shapes", laid_mosaic_opts_shapes)] }
def Ip4FieldsSaid : Prop := ip4FieldsRow.holds Tryd.pinned (OpenSpec.ofChange ip4FieldsSpec)

/-- ITS FALSE NEIGHBOUR: 'it returns false'. Refute it at one input. -/
def ip4FieldsWrong : ChangeSpec := { name := "ip4Fields", fn := fun _ => fun
  | [d] => { results := [.lit (.bool false)], args := [d] }
  | _ => none }
def Ip4FieldsWrongFalsely : Prop := ip4FieldsRow.holds Tryd.pinned (OpenSpec.ofChange ip4FieldsWrong)

/-- 'mosaiclaw05.Ip4Turned': WHATEVER THE INPUT: true; the input reads as it did. -/
def ip4TurnedSpec : ChangeSpec := { name := "ip4Turned", fn := fun _ => fun
  | [d1, d2] => { results := [.lit (.bool true)], args := [d1, d2] }
  | _ => none }
def ip4TurnedRow : OpenClaim := { program := "ytaecfcaeopmiaaadoor", sum := "5d4edfff9a48b96119e097480d8a4e982eeee72df62cfe68147c33a79388efdf", func := "mosaic/mosaiclaw05.Ip4Turned", spec := "ip4Turned", unfollowed := true, recurses := true, named := ["mosaic/opts.shapes"], apart := false, laid := [("mosaic/opts.shapes", laid_mosaic_opts_shapes)] }
def Ip4TurnedSaid : Prop := ip4TurnedRow.holds Tryd.pinned (OpenSpec.ofChange ip4TurnedSpec)

/-- ITS FALSE NEIGHBOUR: 'it returns false'. Refute it at one input. -/
def ip4TurnedWrong : ChangeSpec := { name := "ip4Turned", fn := fun _ => fun
  | [d1, d2] => { results := [.lit (.bool false)], args := [d1, d2] }
  | _ => none }
def Ip4TurnedWrongFalsely : Prop := ip4TurnedRow.holds Tryd.pinned (OpenSpec.ofChange ip4TurnedWrong)

/-- 'mosaiclaw05.Ip4Differ': WHATEVER THE INPUT: true; the input reads as it did. -/
def ip4DifferSpec : ChangeSpec := { name := "ip4Differ", fn := fun _ => fun
  | [d1, d2, d3] => { results := [.lit (.bool true)], args := [d1, d2, d3] }
  | _ => none }
def ip4DifferRow : OpenClaim := { program := "ytaecfcaeopmiaaadoor", sum := "5d4edfff9a48b96119e097480d8a4e982eeee72df62cfe68147c33a79388efdf", func := "mosaic/mosaiclaw05.Ip4Differ", spec := "ip4Differ", unfollowed := true, recurses := true, named := ["mosaic/opts.shapes"], apart := false, laid := [("mosaic/opts.shapes", laid_mosaic_opts_shapes)] }
def Ip4DifferSaid : Prop := ip4DifferRow.holds Tryd.pinned (OpenSpec.ofChange ip4DifferSpec)

/-- ITS FALSE NEIGHBOUR: 'it returns false'. Refute it at one input. -/
def ip4DifferWrong : ChangeSpec := { name := "ip4Differ", fn := fun _ => fun
  | [d1, d2, d3] => { results := [.lit (.bool false)], args := [d1, d2, d3] }
  | _ => none }
def Ip4DifferWrongFalsely : Prop := ip4DifferRow.holds Tryd.pinned (OpenSpec.ofChange ip4DifferWrong)

/-- 'mosaiclaw05.Ip4Refuses': WHATEVER THE INPUT: true; the input reads as it did. -/
def ip4RefusesSpec : ChangeSpec := { name := "ip4Refuses", fn := fun _ => fun
  | [d1, d2, d3] => { results := [.lit (.bool true)], args := [d1, d2, d3] }
  | _ => none }
def ip4RefusesRow : OpenClaim := { program := "ytaecfcaeopmiaaadoor", sum := "5d4edfff9a48b96119e097480d8a4e982eeee72df62cfe68147c33a79388efdf", func := "mosaic/mosaiclaw05.Ip4Refuses", spec := "ip4Refuses", unfollowed := true, recurses := true, named := ["mosaic/opts.shapes"], apart := false, laid := [("mosaic/opts.shapes", laid_mosaic_opts_shapes)] }
def Ip4RefusesSaid : Prop := ip4RefusesRow.holds Tryd.pinned (OpenSpec.ofChange ip4RefusesSpec)

/-- ITS FALSE NEIGHBOUR: 'it returns false'. Refute it at one input. -/
def ip4RefusesWrong : ChangeSpec := { name := "ip4Refuses", fn := fun _ => fun
  | [d1, d2, d3] => { results := [.lit (.bool false)], args := [d1, d2, d3] }
  | _ => none }
def Ip4RefusesWrongFalsely : Prop := ip4RefusesRow.holds Tryd.pinned (OpenSpec.ofChange ip4RefusesWrong)

/-- 'mosaiclaw05.Ip4Memory': WHATEVER THE INPUT: true; the input reads as it did. -/
def ip4MemorySpec : ChangeSpec := { name := "ip4Memory", fn := fun _ => fun
  | [d1, d2] => { results := [.lit (.bool true)], args := [d1, d2] }
  | _ => none }
def ip4MemoryRow : OpenClaim := { program := "ytaecfcaeopmiaaadoor", sum := "5d4edfff9a48b96119e097480d8a4e982eeee72df62cfe68147c33a79388efdf", func := "mosaic/mosaiclaw05.Ip4Memory", spec := "ip4Memory", unfollowed := true, recurses := true, named := ["mosaic/opts.shapes"], apart := false, laid := [("mosaic/opts.shapes", laid_mosaic_opts_shapes)] }
def Ip4MemorySaid : Prop := ip4MemoryRow.holds Tryd.pinned (OpenSpec.ofChange ip4MemorySpec)

/-- ITS FALSE NEIGHBOUR: 'it returns false'. Refute it at one input. -/
def ip4MemoryWrong : ChangeSpec := { name := "ip4Memory", fn := fun _ => fun
  | [d1, d2] => { results := [.lit (.bool false)], args := [d1, d2] }
  | _ => none }
def Ip4MemoryWrongFalsely : Prop := ip4MemoryRow.holds Tryd.pinned (OpenSpec.ofChange ip4MemoryWrong)

/- THE SECOND FORM. 'bulk': how many values and letters a reading holds, each counted each time it is reached (what is shared counts as often as it is met; a slice's spare places count too). A statement '..UptoSaid' is the law's where the arguments, and the package variables that the reading takes, are together of bulk at most 1048576: NARROWER than '..Said'. Prove '..Said' where nothing that the law and all that it calls make is longer than what came in: it says more and counts as full. Else prove '..UptoSaid'. A law counts once. -/
mutual
def uptoBulk {H : Type} : DataW H → Nat
  | .lit (.string bytes) => bytes.length + 1
  | .lit _ => 1
  | .nil => 1
  | .ptr d => uptoBulk d + 1
  | .slice elems spare => uptoBulkAll elems + uptoBulkAll spare + 1
  | .agg parts => uptoBulkAll parts + 1
  | .iface _ d => uptoBulk d + 1
  | .map entries => uptoBulkEntries entries + 1
  | .held _ => 1
def uptoBulkAll {H : Type} : List (DataW H) → Nat
  | [] => 0
  | d :: r => uptoBulk d + uptoBulkAll r
def uptoBulkEntries {H : Type} : List (Lit × DataW H) → Nat
  | [] => 0
  | x :: r => uptoBulkEntry x + uptoBulkEntries r
def uptoBulkEntry {H : Type} : Lit × DataW H → Nat
  | (.string bytes, d) => bytes.length + uptoBulk d + 1
  | (_, d) => uptoBulk d + 1
 end
def uptoSmall : (H : Type) → List (DataW H) → Bool := fun _ ds => decide (uptoBulkAll ds ≤ 1048576)
def OpenSpec.upto (s : _root_.Go.ChangeSpec) : _root_.Go.OpenSpec := { _root_.Go.OpenSpec.ofChange s with cond := some uptoSmall }

/-- 'mosaiclaw05.Ip4Parses', WHERE WHAT IT READS IS OF BULK AT MOST 1048576: true; the input reads as it did. -/
def ip4ParsesUptoRow : OpenClaim := { program := "ytaecfcaeopmiaaadoor", sum := "5d4edfff9a48b96119e097480d8a4e982eeee72df62cfe68147c33a79388efdf", func := "mosaic/mosaiclaw05.Ip4Parses", spec := "ip4Parses", unfollowed := true, recurses := true, named := ["mosaic/opts.shapes"], apart := false, laid := [("mosaic/opts.shapes", laid_mosaic_opts_shapes)], narrowed := true }
def Ip4ParsesUptoSaid : Prop := ip4ParsesUptoRow.holds Tryd.pinned (OpenSpec.upto ip4ParsesSpec)

/-- 'mosaiclaw05.Ip4Builds', WHERE WHAT IT READS IS OF BULK AT MOST 1048576: true; the input reads as it did. -/
def ip4BuildsUptoRow : OpenClaim := { program := "ytaecfcaeopmiaaadoor", sum := "5d4edfff9a48b96119e097480d8a4e982eeee72df62cfe68147c33a79388efdf", func := "mosaic/mosaiclaw05.Ip4Builds", spec := "ip4Builds", unfollowed := true, recurses := true, named := ["mosaic/opts.shapes"], apart := false, laid := [("mosaic/opts.shapes", laid_mosaic_opts_shapes)], narrowed := true }
def Ip4BuildsUptoSaid : Prop := ip4BuildsUptoRow.holds Tryd.pinned (OpenSpec.upto ip4BuildsSpec)

/-- 'mosaiclaw05.Ip4Back', WHERE WHAT IT READS IS OF BULK AT MOST 1048576: true; the input reads as it did. -/
def ip4BackUptoRow : OpenClaim := { program := "ytaecfcaeopmiaaadoor", sum := "5d4edfff9a48b96119e097480d8a4e982eeee72df62cfe68147c33a79388efdf", func := "mosaic/mosaiclaw05.Ip4Back", spec := "ip4Back", unfollowed := true, recurses := true, named := ["mosaic/opts.shapes"], apart := false, laid := [("mosaic/opts.shapes", laid_mosaic_opts_shapes)], narrowed := true }
def Ip4BackUptoSaid : Prop := ip4BackUptoRow.holds Tryd.pinned (OpenSpec.upto ip4BackSpec)

/-- 'mosaiclaw05.Ip4Fields', WHERE WHAT IT READS IS OF BULK AT MOST 1048576: true; the input reads as it did. -/
def ip4FieldsUptoRow : OpenClaim := { program := "ytaecfcaeopmiaaadoor", sum := "5d4edfff9a48b96119e097480d8a4e982eeee72df62cfe68147c33a79388efdf", func := "mosaic/mosaiclaw05.Ip4Fields", spec := "ip4Fields", unfollowed := true, recurses := true, named := ["mosaic/opts.shapes"], apart := false, laid := [("mosaic/opts.shapes", laid_mosaic_opts_shapes)], narrowed := true }
def Ip4FieldsUptoSaid : Prop := ip4FieldsUptoRow.holds Tryd.pinned (OpenSpec.upto ip4FieldsSpec)

/-- 'mosaiclaw05.Ip4Turned', WHERE WHAT IT READS IS OF BULK AT MOST 1048576: true; the input reads as it did. -/
def ip4TurnedUptoRow : OpenClaim := { program := "ytaecfcaeopmiaaadoor", sum := "5d4edfff9a48b96119e097480d8a4e982eeee72df62cfe68147c33a79388efdf", func := "mosaic/mosaiclaw05.Ip4Turned", spec := "ip4Turned", unfollowed := true, recurses := true, named := ["mosaic/opts.shapes"], apart := false, laid := [("mosaic/opts.shapes", laid_mosaic_opts_shapes)], narrowed := true }
def Ip4TurnedUptoSaid : Prop := ip4TurnedUptoRow.holds Tryd.pinned (OpenSpec.upto ip4TurnedSpec)

/-- 'mosaiclaw05.Ip4Differ', WHERE WHAT IT READS IS OF BULK AT MOST 1048576: true; the input reads as it did. -/
def ip4DifferUptoRow : OpenClaim := { program := "ytaecfcaeopmiaaadoor", sum := "5d4edfff9a48b96119e097480d8a4e982eeee72df62cfe68147c33a79388efdf", func := "mosaic/mosaiclaw05.Ip4Differ", spec := "ip4Differ", unfollowed := true, recurses := true, named := ["mosaic/opts.shapes"], apart := false, laid := [("mosaic/opts.shapes", laid_mosaic_opts_shapes)], narrowed := true }
def Ip4DifferUptoSaid : Prop := ip4DifferUptoRow.holds Tryd.pinned (OpenSpec.upto ip4DifferSpec)

/-- 'mosaiclaw05.Ip4Refuses', WHERE WHAT IT READS IS OF BULK AT MOST 1048576: true; the input reads as it did. -/
def ip4RefusesUptoRow : OpenClaim := { program := "ytaecfcaeopmiaaadoor", sum := "5d4edfff9a48b96119e097480d8a4e982eeee72df62cfe68147c33a79388efdf", func := "mosaic/mosaiclaw05.Ip4Refuses", spec := "ip4Refuses", unfollowed := true, recurses := true, named := ["mosaic/opts.shapes"], apart := false, laid := [("mosaic/opts.shapes", laid_mosaic_opts_shapes)], narrowed := true }
def Ip4RefusesUptoSaid : Prop := ip4RefusesUptoRow.holds Tryd.pinned (OpenSpec.upto ip4RefusesSpec)

/-- 'mosaiclaw05.Ip4Memory', WHERE WHAT IT READS IS OF BULK AT MOST 1048576: true; the input reads as it did. -/
def ip4MemoryUptoRow : OpenClaim := { program := "ytaecfcaeopmiaaadoor", sum := "5d4edfff9a48b96119e097480d8a4e982eeee72df62cfe68147c33a79388efdf", func := "mosaic/mosaiclaw05.Ip4Memory", spec := "ip4Memory", unfollowed := true, recurses := true, named := ["mosaic/opts.shapes"], apart := false, laid := [("mosaic/opts.shapes", laid_mosaic_opts_shapes)], narrowed := true }
def Ip4MemoryUptoSaid : Prop := ip4MemoryUptoRow.holds Tryd.pinned (OpenSpec.upto ip4MemorySpec)

end Rows
end Go.Proofs.YtaecfcaeopmiaaaDoor
