/-
  NARROWER THAN 'FOR EVERY INPUT', by the rows' own cells (each row's printed sentence says how): OptsParses: laid · OptsBuilds: laid · OptsBack: laid · OptsForms: laid · OptsPieces: laid · OptsCarries: laid · OptsKeeps: laid.
  DERIVED. THE GIVEN ROWS OF THIS SEAT. 7 by the template 'for every input the law returns true; each argument reads behind the call as it read before'; 0 by the template 'total and deterministic' (their statements: YtebfbpfikbjjlaaDoorTotals.lean).
  GIVEN WITH THE SEED: the statements are not yours to turn. If you find one false, say at which input.
  Laid BY PROGRAM, IN A SANDBOX (cutbox-rows.mjs): the forced cells as the released guide's own fill.sh prints them over the translation 90f13b4004687b62… (all of the seat's roots in one cut). By AI agents, Wed Nov 11 2026. No macro, syntax, notation, axiom, sorry.
-/
import Derived.Test.YtebfbpfikbjjlaaDoorChecked
import GoSem.Claim
import GoSem.ClaimJoined
import GoSem.ClaimMapViews
import Derived.JoinedTies
import Derived.KernelRfl
namespace Go.Proofs.YtebfbpfikbjjlaaDoor
/- THE CELL 'sum', in the pinned program and in every row, IS THE sha256 OF THE DUMP (.gsa) THAT YtebfbpfikbjjlaaDoorProg.lean LOADS. Nothing in Lean hashes anything: it is a label: what it is worth is what the hold of that sum in a sandbox is worth. -/
noncomputable def Tryd.pinned : Pinned := { name := "ytebfbpfikbjjlaadoor", sum := "90f13b4004687b627c119f8cea31de5f24dca9203d4994c9f9acf66951bdbf53", checked := Tryd.checked }
namespace Rows
def none {H : Type} : Left H := { results := [], args := [] }

/- WHAT THE LISTED PACKAGE-LEVEL VARIABLES READ AS WHEN THE CALL BEGINS. Each datum BY PROGRAM (the guide's laid-datum.mjs) off the statement by which the dump's own 'gosem.cut.vars' lays the variable. In a bare row this is a premise. The card (YtebfbpfikbjjlaaDoorCards.lean) ties it to the program's text. -/
def laid_mosaic_opts_shapes {H : Type} : DataW H := .agg [.lit (.int .i64 1), .lit (.int .i64 2)]

/-- 'mosaiclaw04.OptsParses': WHATEVER THE INPUT: true; the input reads as it did. -/
def optsParsesSpec : ChangeSpec := { name := "optsParses", fn := fun _ => fun
  | [d] => { results := [.lit (.bool true)], args := [d] }
  | _ => none }
def optsParsesRow : OpenClaim := { program := "ytebfbpfikbjjlaadoor", sum := "90f13b4004687b627c119f8cea31de5f24dca9203d4994c9f9acf66951bdbf53", func := "mosaic/mosaiclaw04.OptsParses", spec := "optsParses", unfollowed := true, recurses := true, named := ["mosaic/opts.shapes"], apart := false, laid := [("mosaic/opts.shapes", laid_mosaic_opts_shapes)] }
def OptsParsesSaid : Prop := optsParsesRow.holds Tryd.pinned (OpenSpec.ofChange optsParsesSpec)

/-- ITS FALSE NEIGHBOUR: 'it returns false'. Refute it at one input. -/
def optsParsesWrong : ChangeSpec := { name := "optsParses", fn := fun _ => fun
  | [d] => { results := [.lit (.bool false)], args := [d] }
  | _ => none }
def OptsParsesWrongFalsely : Prop := optsParsesRow.holds Tryd.pinned (OpenSpec.ofChange optsParsesWrong)

/-- 'mosaiclaw04.OptsBuilds': WHATEVER THE INPUT: true; the input reads as it did. -/
def optsBuildsSpec : ChangeSpec := { name := "optsBuilds", fn := fun _ => fun
  | [d] => { results := [.lit (.bool true)], args := [d] }
  | _ => none }
def optsBuildsRow : OpenClaim := { program := "ytebfbpfikbjjlaadoor", sum := "90f13b4004687b627c119f8cea31de5f24dca9203d4994c9f9acf66951bdbf53", func := "mosaic/mosaiclaw04.OptsBuilds", spec := "optsBuilds", unfollowed := true, recurses := true, named := ["mosaic/opts.shapes"], apart := false, laid := [("mosaic/opts.shapes", laid_mosaic_opts_shapes)] }
def OptsBuildsSaid : Prop := optsBuildsRow.holds Tryd.pinned (OpenSpec.ofChange optsBuildsSpec)

/-- ITS FALSE NEIGHBOUR: 'it returns false'. Refute it at one input. -/
def optsBuildsWrong : ChangeSpec := { name := "optsBuilds", fn := fun _ => fun
  | [d] => { results := [.lit (.bool false)], args := [d] }
  | _ => none }
def OptsBuildsWrongFalsely : Prop := optsBuildsRow.holds Tryd.pinned (OpenSpec.ofChange optsBuildsWrong)

/-- 'mosaiclaw04.OptsBack': WHATEVER THE INPUT: true; the input reads as it did. -/
def optsBackSpec : ChangeSpec := { name := "optsBack", fn := fun _ => fun
  | [d] => { results := [.lit (.bool true)], args := [d] }
  | _ => none }
def optsBackRow : OpenClaim := { program := "ytebfbpfikbjjlaadoor", sum := "90f13b4004687b627c119f8cea31de5f24dca9203d4994c9f9acf66951bdbf53", func := "mosaic/mosaiclaw04.OptsBack", spec := "optsBack", unfollowed := true, recurses := true, named := ["mosaic/opts.shapes"], apart := false, laid := [("mosaic/opts.shapes", laid_mosaic_opts_shapes)] }
def OptsBackSaid : Prop := optsBackRow.holds Tryd.pinned (OpenSpec.ofChange optsBackSpec)

/-- ITS FALSE NEIGHBOUR: 'it returns false'. Refute it at one input. -/
def optsBackWrong : ChangeSpec := { name := "optsBack", fn := fun _ => fun
  | [d] => { results := [.lit (.bool false)], args := [d] }
  | _ => none }
def OptsBackWrongFalsely : Prop := optsBackRow.holds Tryd.pinned (OpenSpec.ofChange optsBackWrong)

/-- 'mosaiclaw04.OptsForms': WHATEVER THE INPUT: true; the input reads as it did. -/
def optsFormsSpec : ChangeSpec := { name := "optsForms", fn := fun _ => fun
  | [d] => { results := [.lit (.bool true)], args := [d] }
  | _ => none }
def optsFormsRow : OpenClaim := { program := "ytebfbpfikbjjlaadoor", sum := "90f13b4004687b627c119f8cea31de5f24dca9203d4994c9f9acf66951bdbf53", func := "mosaic/mosaiclaw04.OptsForms", spec := "optsForms", unfollowed := true, recurses := true, named := ["mosaic/opts.shapes"], apart := false, laid := [("mosaic/opts.shapes", laid_mosaic_opts_shapes)] }
def OptsFormsSaid : Prop := optsFormsRow.holds Tryd.pinned (OpenSpec.ofChange optsFormsSpec)

/-- ITS FALSE NEIGHBOUR: 'it returns false'. Refute it at one input. -/
def optsFormsWrong : ChangeSpec := { name := "optsForms", fn := fun _ => fun
  | [d] => { results := [.lit (.bool false)], args := [d] }
  | _ => none }
def OptsFormsWrongFalsely : Prop := optsFormsRow.holds Tryd.pinned (OpenSpec.ofChange optsFormsWrong)

/-- 'mosaiclaw04.OptsPieces': WHATEVER THE INPUT: true; the input reads as it did. -/
def optsPiecesSpec : ChangeSpec := { name := "optsPieces", fn := fun _ => fun
  | [d1, d2] => { results := [.lit (.bool true)], args := [d1, d2] }
  | _ => none }
def optsPiecesRow : OpenClaim := { program := "ytebfbpfikbjjlaadoor", sum := "90f13b4004687b627c119f8cea31de5f24dca9203d4994c9f9acf66951bdbf53", func := "mosaic/mosaiclaw04.OptsPieces", spec := "optsPieces", unfollowed := true, recurses := true, named := ["mosaic/opts.shapes"], apart := false, laid := [("mosaic/opts.shapes", laid_mosaic_opts_shapes)] }
def OptsPiecesSaid : Prop := optsPiecesRow.holds Tryd.pinned (OpenSpec.ofChange optsPiecesSpec)

/-- ITS FALSE NEIGHBOUR: 'it returns false'. Refute it at one input. -/
def optsPiecesWrong : ChangeSpec := { name := "optsPieces", fn := fun _ => fun
  | [d1, d2] => { results := [.lit (.bool false)], args := [d1, d2] }
  | _ => none }
def OptsPiecesWrongFalsely : Prop := optsPiecesRow.holds Tryd.pinned (OpenSpec.ofChange optsPiecesWrong)

/-- 'mosaiclaw04.OptsCarries': WHATEVER THE INPUT: true; the input reads as it did. -/
def optsCarriesSpec : ChangeSpec := { name := "optsCarries", fn := fun _ => fun
  | [d1, d2] => { results := [.lit (.bool true)], args := [d1, d2] }
  | _ => none }
def optsCarriesRow : OpenClaim := { program := "ytebfbpfikbjjlaadoor", sum := "90f13b4004687b627c119f8cea31de5f24dca9203d4994c9f9acf66951bdbf53", func := "mosaic/mosaiclaw04.OptsCarries", spec := "optsCarries", unfollowed := true, recurses := true, named := ["mosaic/opts.shapes"], apart := false, laid := [("mosaic/opts.shapes", laid_mosaic_opts_shapes)] }
def OptsCarriesSaid : Prop := optsCarriesRow.holds Tryd.pinned (OpenSpec.ofChange optsCarriesSpec)

/-- ITS FALSE NEIGHBOUR: 'it returns false'. Refute it at one input. -/
def optsCarriesWrong : ChangeSpec := { name := "optsCarries", fn := fun _ => fun
  | [d1, d2] => { results := [.lit (.bool false)], args := [d1, d2] }
  | _ => none }
def OptsCarriesWrongFalsely : Prop := optsCarriesRow.holds Tryd.pinned (OpenSpec.ofChange optsCarriesWrong)

/-- 'mosaiclaw04.OptsKeeps': WHATEVER THE INPUT: true; the input reads as it did. -/
def optsKeepsSpec : ChangeSpec := { name := "optsKeeps", fn := fun _ => fun
  | [d1, d2, d3] => { results := [.lit (.bool true)], args := [d1, d2, d3] }
  | _ => none }
def optsKeepsRow : OpenClaim := { program := "ytebfbpfikbjjlaadoor", sum := "90f13b4004687b627c119f8cea31de5f24dca9203d4994c9f9acf66951bdbf53", func := "mosaic/mosaiclaw04.OptsKeeps", spec := "optsKeeps", unfollowed := true, recurses := true, named := ["mosaic/opts.shapes"], apart := false, laid := [("mosaic/opts.shapes", laid_mosaic_opts_shapes)] }
def OptsKeepsSaid : Prop := optsKeepsRow.holds Tryd.pinned (OpenSpec.ofChange optsKeepsSpec)

/-- ITS FALSE NEIGHBOUR: 'it returns false'. Refute it at one input. -/
def optsKeepsWrong : ChangeSpec := { name := "optsKeeps", fn := fun _ => fun
  | [d1, d2, d3] => { results := [.lit (.bool false)], args := [d1, d2, d3] }
  | _ => none }
def OptsKeepsWrongFalsely : Prop := optsKeepsRow.holds Tryd.pinned (OpenSpec.ofChange optsKeepsWrong)

/- THE SECOND FORM. 'bulk': how many values and letters a reading holds, each counted each time it is reached (what is shared counts as often as it is met; a slice's spare places count too). A statement '..UptoSaid' is the law's where the arguments, and the package variables that the reading takes, are together of bulk at most 1048576: NARROWER than '..Said'. Prove '..Said' where nothing that the law and all that it calls make is longer than what came in: it says more and counts as full. Else prove '..UptoSaid'. A law counts once. -/
mutual
def uptoBulk {H : Type} : DataW H → Nat
  | .lit (.string bytes) => bytes.length + 1
  | .lit _ => 1
  | .nil => 1
  | .ptr d => uptoBulk d + 1
  | .slice elems spare => uptoBulkAll elems + uptoBulkAll spare + 1
  | .agg parts => uptoBulkAll parts + 1
  | .iface _ d => uptoBulk d + 1
  | .map entries => uptoBulkEntries entries + 1
  | .held _ => 1
def uptoBulkAll {H : Type} : List (DataW H) → Nat
  | [] => 0
  | d :: r => uptoBulk d + uptoBulkAll r
def uptoBulkEntries {H : Type} : List (Lit × DataW H) → Nat
  | [] => 0
  | x :: r => uptoBulkEntry x + uptoBulkEntries r
def uptoBulkEntry {H : Type} : Lit × DataW H → Nat
  | (.string bytes, d) => bytes.length + uptoBulk d + 1
  | (_, d) => uptoBulk d + 1
 end
def uptoSmall : (H : Type) → List (DataW H) → Bool := fun _ ds => decide (uptoBulkAll ds ≤ 1048576)
def OpenSpec.upto (s : _root_.Go.ChangeSpec) : _root_.Go.OpenSpec := { _root_.Go.OpenSpec.ofChange s with cond := some uptoSmall }

/-- 'mosaiclaw04.OptsParses', WHERE WHAT IT READS IS OF BULK AT MOST 1048576: true; the input reads as it did. -/
def optsParsesUptoRow : OpenClaim := { program := "ytebfbpfikbjjlaadoor", sum := "90f13b4004687b627c119f8cea31de5f24dca9203d4994c9f9acf66951bdbf53", func := "mosaic/mosaiclaw04.OptsParses", spec := "optsParses", unfollowed := true, recurses := true, named := ["mosaic/opts.shapes"], apart := false, laid := [("mosaic/opts.shapes", laid_mosaic_opts_shapes)], narrowed := true }
def OptsParsesUptoSaid : Prop := optsParsesUptoRow.holds Tryd.pinned (OpenSpec.upto optsParsesSpec)

/-- 'mosaiclaw04.OptsBuilds', WHERE WHAT IT READS IS OF BULK AT MOST 1048576: true; the input reads as it did. -/
def optsBuildsUptoRow : OpenClaim := { program := "ytebfbpfikbjjlaadoor", sum := "90f13b4004687b627c119f8cea31de5f24dca9203d4994c9f9acf66951bdbf53", func := "mosaic/mosaiclaw04.OptsBuilds", spec := "optsBuilds", unfollowed := true, recurses := true, named := ["mosaic/opts.shapes"], apart := false, laid := [("mosaic/opts.shapes", laid_mosaic_opts_shapes)], narrowed := true }
def OptsBuildsUptoSaid : Prop := optsBuildsUptoRow.holds Tryd.pinned (OpenSpec.upto optsBuildsSpec)

/-- 'mosaiclaw04.OptsBack', WHERE WHAT IT READS IS OF BULK AT MOST 1048576: true; the input reads as it did. -/
def optsBackUptoRow : OpenClaim := { program := "ytebfbpfikbjjlaadoor", sum := "90f13b4004687b627c119f8cea31de5f24dca9203d4994c9f9acf66951bdbf53", func := "mosaic/mosaiclaw04.OptsBack", spec := "optsBack", unfollowed := true, recurses := true, named := ["mosaic/opts.shapes"], apart := false, laid := [("mosaic/opts.shapes", laid_mosaic_opts_shapes)], narrowed := true }
def OptsBackUptoSaid : Prop := optsBackUptoRow.holds Tryd.pinned (OpenSpec.upto optsBackSpec)

/-- 'mosaiclaw04.OptsForms', WHERE WHAT IT READS IS OF BULK AT MOST 1048576: true; the input reads as it did. -/
def optsFormsUptoRow : OpenClaim := { program := "ytebfbpfikbjjlaadoor", sum := "90f13b4004687b627c119f8cea31de5f24dca9203d4994c9f9acf66951bdbf53", func := "mosaic/mosaiclaw04.OptsForms", spec := "optsForms", unfollowed := true, recurses := true, named := ["mosaic/opts.shapes"], apart := false, laid := [("mosaic/opts.shapes", laid_mosaic_opts_shapes)], narrowed := true }
def OptsFormsUptoSaid : Prop := optsFormsUptoRow.holds Tryd.pinned (OpenSpec.upto optsFormsSpec)

/-- 'mosaiclaw04.OptsPieces', WHERE WHAT IT READS IS OF BULK AT MOST 1048576: true; the input reads as it did. -/
def optsPiecesUptoRow : OpenClaim := { program := "ytebfbpfikbjjlaadoor", sum := "90f13b4004687b627c119f8cea31de5f24dca9203d4994c9f9acf66951bdbf53", func := "mosaic/mosaiclaw04.OptsPieces", spec := "optsPieces", unfollowed := true, recurses := true, named := ["mosaic/opts.shapes"], apart := false, laid := [("mosaic/opts.shapes", laid_mosaic_opts_shapes)], narrowed := true }
def OptsPiecesUptoSaid : Prop := optsPiecesUptoRow.holds Tryd.pinned (OpenSpec.upto optsPiecesSpec)

/-- 'mosaiclaw04.OptsCarries', WHERE WHAT IT READS IS OF BULK AT MOST 1048576: true; the input reads as it did. -/
def optsCarriesUptoRow : OpenClaim := { program := "ytebfbpfikbjjlaadoor", sum := "90f13b4004687b627c119f8cea31de5f24dca9203d4994c9f9acf66951bdbf53", func := "mosaic/mosaiclaw04.OptsCarries", spec := "optsCarries", unfollowed := true, recurses := true, named := ["mosaic/opts.shapes"], apart := false, laid := [("mosaic/opts.shapes", laid_mosaic_opts_shapes)], narrowed := true }
def OptsCarriesUptoSaid : Prop := optsCarriesUptoRow.holds Tryd.pinned (OpenSpec.upto optsCarriesSpec)

/-- 'mosaiclaw04.OptsKeeps', WHERE WHAT IT READS IS OF BULK AT MOST 1048576: true; the input reads as it did. -/
def optsKeepsUptoRow : OpenClaim := { program := "ytebfbpfikbjjlaadoor", sum := "90f13b4004687b627c119f8cea31de5f24dca9203d4994c9f9acf66951bdbf53", func := "mosaic/mosaiclaw04.OptsKeeps", spec := "optsKeeps", unfollowed := true, recurses := true, named := ["mosaic/opts.shapes"], apart := false, laid := [("mosaic/opts.shapes", laid_mosaic_opts_shapes)], narrowed := true }
def OptsKeepsUptoSaid : Prop := optsKeepsUptoRow.holds Tryd.pinned (OpenSpec.upto optsKeepsSpec)

end Rows
end Go.Proofs.YtebfbpfikbjjlaaDoor
