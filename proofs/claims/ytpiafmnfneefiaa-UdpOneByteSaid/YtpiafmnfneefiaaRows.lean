/-
  No cell of these rows narrows 'for every input' (looked for: loops, veiled, ifaces, maps, wideKeys, modest, calm, conditions, laid).
  DERIVED. THE GIVEN ROWS OF THIS SEAT. 7 by the template 'for every input the law returns true; each argument reads behind the call as it read before'; 0 by the template 'total and deterministic' (their statements: YtpiafmnfneefiaaTotals.lean).
  GIVEN WITH THE SEED: the statements are not yours to turn. If you find one false, say at which input.
  Laid BY PROGRAM, IN A SANDBOX (cutbox-rows.mjs): the forced cells as the released guide's own fill.sh prints them over the translation acd1fdf9c1a967d6… (all of the seat's roots in one cut). By AI agents, Wed Nov 11 2026. No macro, syntax, notation, axiom, sorry.
-/
import Derived.Test.YtpiafmnfneefiaaChecked
import GoSem.Claim
import GoSem.ClaimJoined
import GoSem.ClaimMapViews
import Derived.JoinedTies
import Derived.KernelRfl
namespace Go.Proofs.Ytpiafmnfneefiaa
/- THE CELL 'sum', in the pinned program and in every row, IS THE sha256 OF THE DUMP (.gsa) THAT YtpiafmnfneefiaaProg.lean LOADS. Nothing in Lean hashes anything: it is a label: what it is worth is what the hold of that sum in a sandbox is worth. -/
noncomputable def Try.pinned : Pinned := { name := "ytpiafmnfneefiaa", sum := "acd1fdf9c1a967d6ef2ce06147eeffa193c356f866f696b4dff4b5a8202c5e2d", checked := Try.checked }
namespace Rows
def none {H : Type} : Left H := { results := [], args := [] }

/-- 'mosaiclaw07.UdpPseudos': WHATEVER THE INPUT: true; the input reads as it did. -/
def udpPseudosSpec : ChangeSpec := { name := "udpPseudos", fn := fun _ => fun
  | [d1, d2, d3, d4] => { results := [.lit (.bool true)], args := [d1, d2, d3, d4] }
  | _ => none }
def udpPseudosRow : OpenClaim := { program := "ytpiafmnfneefiaa", sum := "acd1fdf9c1a967d6ef2ce06147eeffa193c356f866f696b4dff4b5a8202c5e2d", func := "mosaic/mosaiclaw07.UdpPseudos", spec := "udpPseudos", apart := false }
def UdpPseudosSaid : Prop := udpPseudosRow.holds Try.pinned (OpenSpec.ofChange udpPseudosSpec)

/-- ITS FALSE NEIGHBOUR: 'it returns false'. Refute it at one input. -/
def udpPseudosWrong : ChangeSpec := { name := "udpPseudos", fn := fun _ => fun
  | [d1, d2, d3, d4] => { results := [.lit (.bool false)], args := [d1, d2, d3, d4] }
  | _ => none }
def UdpPseudosWrongFalsely : Prop := udpPseudosRow.holds Try.pinned (OpenSpec.ofChange udpPseudosWrong)

/-- 'mosaiclaw07.UdpBuilds': WHATEVER THE INPUT: true; the input reads as it did. -/
def udpBuildsSpec : ChangeSpec := { name := "udpBuilds", fn := fun _ => fun
  | [d1, d2, d3] => { results := [.lit (.bool true)], args := [d1, d2, d3] }
  | _ => none }
def udpBuildsRow : OpenClaim := { program := "ytpiafmnfneefiaa", sum := "acd1fdf9c1a967d6ef2ce06147eeffa193c356f866f696b4dff4b5a8202c5e2d", func := "mosaic/mosaiclaw07.UdpBuilds", spec := "udpBuilds", apart := false }
def UdpBuildsSaid : Prop := udpBuildsRow.holds Try.pinned (OpenSpec.ofChange udpBuildsSpec)

/-- ITS FALSE NEIGHBOUR: 'it returns false'. Refute it at one input. -/
def udpBuildsWrong : ChangeSpec := { name := "udpBuilds", fn := fun _ => fun
  | [d1, d2, d3] => { results := [.lit (.bool false)], args := [d1, d2, d3] }
  | _ => none }
def UdpBuildsWrongFalsely : Prop := udpBuildsRow.holds Try.pinned (OpenSpec.ofChange udpBuildsWrong)

/-- 'mosaiclaw07.UdpParses': WHATEVER THE INPUT: true; the input reads as it did. -/
def udpParsesSpec : ChangeSpec := { name := "udpParses", fn := fun _ => fun
  | [d1, d2, d3] => { results := [.lit (.bool true)], args := [d1, d2, d3] }
  | _ => none }
def udpParsesRow : OpenClaim := { program := "ytpiafmnfneefiaa", sum := "acd1fdf9c1a967d6ef2ce06147eeffa193c356f866f696b4dff4b5a8202c5e2d", func := "mosaic/mosaiclaw07.UdpParses", spec := "udpParses", apart := false }
def UdpParsesSaid : Prop := udpParsesRow.holds Try.pinned (OpenSpec.ofChange udpParsesSpec)

/-- ITS FALSE NEIGHBOUR: 'it returns false'. Refute it at one input. -/
def udpParsesWrong : ChangeSpec := { name := "udpParses", fn := fun _ => fun
  | [d1, d2, d3] => { results := [.lit (.bool false)], args := [d1, d2, d3] }
  | _ => none }
def UdpParsesWrongFalsely : Prop := udpParsesRow.holds Try.pinned (OpenSpec.ofChange udpParsesWrong)

/-- 'mosaiclaw07.UdpBack': WHATEVER THE INPUT: true; the input reads as it did. -/
def udpBackSpec : ChangeSpec := { name := "udpBack", fn := fun _ => fun
  | [d1, d2, d3, d4] => { results := [.lit (.bool true)], args := [d1, d2, d3, d4] }
  | _ => none }
def udpBackRow : OpenClaim := { program := "ytpiafmnfneefiaa", sum := "acd1fdf9c1a967d6ef2ce06147eeffa193c356f866f696b4dff4b5a8202c5e2d", func := "mosaic/mosaiclaw07.UdpBack", spec := "udpBack", apart := false }
def UdpBackSaid : Prop := udpBackRow.holds Try.pinned (OpenSpec.ofChange udpBackSpec)

/-- ITS FALSE NEIGHBOUR: 'it returns false'. Refute it at one input. -/
def udpBackWrong : ChangeSpec := { name := "udpBack", fn := fun _ => fun
  | [d1, d2, d3, d4] => { results := [.lit (.bool false)], args := [d1, d2, d3, d4] }
  | _ => none }
def UdpBackWrongFalsely : Prop := udpBackRow.holds Try.pinned (OpenSpec.ofChange udpBackWrong)

/-- 'mosaiclaw07.UdpForms': WHATEVER THE INPUT: true; the input reads as it did. -/
def udpFormsSpec : ChangeSpec := { name := "udpForms", fn := fun _ => fun
  | [d1, d2, d3] => { results := [.lit (.bool true)], args := [d1, d2, d3] }
  | _ => none }
def udpFormsRow : OpenClaim := { program := "ytpiafmnfneefiaa", sum := "acd1fdf9c1a967d6ef2ce06147eeffa193c356f866f696b4dff4b5a8202c5e2d", func := "mosaic/mosaiclaw07.UdpForms", spec := "udpForms", apart := false }
def UdpFormsSaid : Prop := udpFormsRow.holds Try.pinned (OpenSpec.ofChange udpFormsSpec)

/-- ITS FALSE NEIGHBOUR: 'it returns false'. Refute it at one input. -/
def udpFormsWrong : ChangeSpec := { name := "udpForms", fn := fun _ => fun
  | [d1, d2, d3] => { results := [.lit (.bool false)], args := [d1, d2, d3] }
  | _ => none }
def UdpFormsWrongFalsely : Prop := udpFormsRow.holds Try.pinned (OpenSpec.ofChange udpFormsWrong)

/-- 'mosaiclaw07.UdpOneByte': WHATEVER THE INPUT: true; the input reads as it did. -/
def udpOneByteSpec : ChangeSpec := { name := "udpOneByte", fn := fun _ => fun
  | [d1, d2, d3, d4, d5] => { results := [.lit (.bool true)], args := [d1, d2, d3, d4, d5] }
  | _ => none }
def udpOneByteRow : OpenClaim := { program := "ytpiafmnfneefiaa", sum := "acd1fdf9c1a967d6ef2ce06147eeffa193c356f866f696b4dff4b5a8202c5e2d", func := "mosaic/mosaiclaw07.UdpOneByte", spec := "udpOneByte", apart := false }
def UdpOneByteSaid : Prop := udpOneByteRow.holds Try.pinned (OpenSpec.ofChange udpOneByteSpec)

/-- ITS FALSE NEIGHBOUR: 'it returns false'. Refute it at one input. -/
def udpOneByteWrong : ChangeSpec := { name := "udpOneByte", fn := fun _ => fun
  | [d1, d2, d3, d4, d5] => { results := [.lit (.bool false)], args := [d1, d2, d3, d4, d5] }
  | _ => none }
def UdpOneByteWrongFalsely : Prop := udpOneByteRow.holds Try.pinned (OpenSpec.ofChange udpOneByteWrong)

/-- 'mosaiclaw07.UdpKeeps': WHATEVER THE INPUT: true; the input reads as it did. -/
def udpKeepsSpec : ChangeSpec := { name := "udpKeeps", fn := fun _ => fun
  | [d1, d2, d3] => { results := [.lit (.bool true)], args := [d1, d2, d3] }
  | _ => none }
def udpKeepsRow : OpenClaim := { program := "ytpiafmnfneefiaa", sum := "acd1fdf9c1a967d6ef2ce06147eeffa193c356f866f696b4dff4b5a8202c5e2d", func := "mosaic/mosaiclaw07.UdpKeeps", spec := "udpKeeps", apart := false }
def UdpKeepsSaid : Prop := udpKeepsRow.holds Try.pinned (OpenSpec.ofChange udpKeepsSpec)

/-- ITS FALSE NEIGHBOUR: 'it returns false'. Refute it at one input. -/
def udpKeepsWrong : ChangeSpec := { name := "udpKeeps", fn := fun _ => fun
  | [d1, d2, d3] => { results := [.lit (.bool false)], args := [d1, d2, d3] }
  | _ => none }
def UdpKeepsWrongFalsely : Prop := udpKeepsRow.holds Try.pinned (OpenSpec.ofChange udpKeepsWrong)

/- THE SECOND FORM. 'bulk': how many values and letters a reading holds, each counted each time it is reached (what is shared counts as often as it is met; a slice's spare places count too). A statement '..UptoSaid' is the law's where the arguments, and the package variables that the reading takes, are together of bulk at most 1048576: NARROWER than '..Said'. Prove '..Said' where nothing that the law and all that it calls make is longer than what came in: it says more and counts as full. Else prove '..UptoSaid'. A law counts once. -/
mutual
def uptoBulk {H : Type} : DataW H → Nat
  | .lit (.string bytes) => bytes.length + 1
  | .lit _ => 1
  | .nil => 1
  | .ptr d => uptoBulk d + 1
  | .slice elems spare => uptoBulkAll elems + uptoBulkAll spare + 1
  | .agg parts => uptoBulkAll parts + 1
  | .iface _ d => uptoBulk d + 1
  | .map entries => uptoBulkEntries entries + 1
  | .held _ => 1
def uptoBulkAll {H : Type} : List (DataW H) → Nat
  | [] => 0
  | d :: r => uptoBulk d + uptoBulkAll r
def uptoBulkEntries {H : Type} : List (Lit × DataW H) → Nat
  | [] => 0
  | x :: r => uptoBulkEntry x + uptoBulkEntries r
def uptoBulkEntry {H : Type} : Lit × DataW H → Nat
  | (.string bytes, d) => bytes.length + uptoBulk d + 1
  | (_, d) => uptoBulk d + 1
 end
def uptoSmall : (H : Type) → List (DataW H) → Bool := fun _ ds => decide (uptoBulkAll ds ≤ 1048576)
def OpenSpec.upto (s : _root_.Go.ChangeSpec) : _root_.Go.OpenSpec := { _root_.Go.OpenSpec.ofChange s with cond := some uptoSmall }

/-- 'mosaiclaw07.UdpPseudos', WHERE WHAT IT READS IS OF BULK AT MOST 1048576: true; the input reads as it did. -/
def udpPseudosUptoRow : OpenClaim := { program := "ytpiafmnfneefiaa", sum := "acd1fdf9c1a967d6ef2ce06147eeffa193c356f866f696b4dff4b5a8202c5e2d", func := "mosaic/mosaiclaw07.UdpPseudos", spec := "udpPseudos", apart := false, narrowed := true }
def UdpPseudosUptoSaid : Prop := udpPseudosUptoRow.holds Try.pinned (OpenSpec.upto udpPseudosSpec)

/-- 'mosaiclaw07.UdpBuilds', WHERE WHAT IT READS IS OF BULK AT MOST 1048576: true; the input reads as it did. -/
def udpBuildsUptoRow : OpenClaim := { program := "ytpiafmnfneefiaa", sum := "acd1fdf9c1a967d6ef2ce06147eeffa193c356f866f696b4dff4b5a8202c5e2d", func := "mosaic/mosaiclaw07.UdpBuilds", spec := "udpBuilds", apart := false, narrowed := true }
def UdpBuildsUptoSaid : Prop := udpBuildsUptoRow.holds Try.pinned (OpenSpec.upto udpBuildsSpec)

/-- 'mosaiclaw07.UdpParses', WHERE WHAT IT READS IS OF BULK AT MOST 1048576: true; the input reads as it did. -/
def udpParsesUptoRow : OpenClaim := { program := "ytpiafmnfneefiaa", sum := "acd1fdf9c1a967d6ef2ce06147eeffa193c356f866f696b4dff4b5a8202c5e2d", func := "mosaic/mosaiclaw07.UdpParses", spec := "udpParses", apart := false, narrowed := true }
def UdpParsesUptoSaid : Prop := udpParsesUptoRow.holds Try.pinned (OpenSpec.upto udpParsesSpec)

/-- 'mosaiclaw07.UdpBack', WHERE WHAT IT READS IS OF BULK AT MOST 1048576: true; the input reads as it did. -/
def udpBackUptoRow : OpenClaim := { program := "ytpiafmnfneefiaa", sum := "acd1fdf9c1a967d6ef2ce06147eeffa193c356f866f696b4dff4b5a8202c5e2d", func := "mosaic/mosaiclaw07.UdpBack", spec := "udpBack", apart := false, narrowed := true }
def UdpBackUptoSaid : Prop := udpBackUptoRow.holds Try.pinned (OpenSpec.upto udpBackSpec)

/-- 'mosaiclaw07.UdpForms', WHERE WHAT IT READS IS OF BULK AT MOST 1048576: true; the input reads as it did. -/
def udpFormsUptoRow : OpenClaim := { program := "ytpiafmnfneefiaa", sum := "acd1fdf9c1a967d6ef2ce06147eeffa193c356f866f696b4dff4b5a8202c5e2d", func := "mosaic/mosaiclaw07.UdpForms", spec := "udpForms", apart := false, narrowed := true }
def UdpFormsUptoSaid : Prop := udpFormsUptoRow.holds Try.pinned (OpenSpec.upto udpFormsSpec)

/-- 'mosaiclaw07.UdpOneByte', WHERE WHAT IT READS IS OF BULK AT MOST 1048576: true; the input reads as it did. -/
def udpOneByteUptoRow : OpenClaim := { program := "ytpiafmnfneefiaa", sum := "acd1fdf9c1a967d6ef2ce06147eeffa193c356f866f696b4dff4b5a8202c5e2d", func := "mosaic/mosaiclaw07.UdpOneByte", spec := "udpOneByte", apart := false, narrowed := true }
def UdpOneByteUptoSaid : Prop := udpOneByteUptoRow.holds Try.pinned (OpenSpec.upto udpOneByteSpec)

/-- 'mosaiclaw07.UdpKeeps', WHERE WHAT IT READS IS OF BULK AT MOST 1048576: true; the input reads as it did. -/
def udpKeepsUptoRow : OpenClaim := { program := "ytpiafmnfneefiaa", sum := "acd1fdf9c1a967d6ef2ce06147eeffa193c356f866f696b4dff4b5a8202c5e2d", func := "mosaic/mosaiclaw07.UdpKeeps", spec := "udpKeeps", apart := false, narrowed := true }
def UdpKeepsUptoSaid : Prop := udpKeepsUptoRow.holds Try.pinned (OpenSpec.upto udpKeepsSpec)

end Rows
end Go.Proofs.Ytpiafmnfneefiaa
