/-
  No cell of these rows narrows 'for every input' (looked for: loops, veiled, ifaces, maps, wideKeys, modest, calm, conditions, laid).
  DERIVED. THE GIVEN ROWS OF THIS SEAT. 4 by the template 'for every input the law returns true; each argument reads behind the call as it read before'; 0 by the template 'total and deterministic' (their statements: YtpggbbjhbklamaaTotals.lean).
  GIVEN WITH THE SEED: the statements are not yours to turn. If you find one false, say at which input.
  Laid BY PROGRAM, IN A SANDBOX (cutbox-rows.mjs): the forced cells as the released guide's own fill.sh prints them over the translation 6c27a4dc351294eb… (all of the seat's roots in one cut). By AI agents, Wed Nov 11 2026. No macro, syntax, notation, axiom, sorry.
-/
import Derived.Test.YtpggbbjhbklamaaChecked
import GoSem.Claim
import GoSem.ClaimJoined
import GoSem.ClaimMapViews
import Derived.JoinedTies
import Derived.KernelRfl
namespace Go.Proofs.Ytpggbbjhbklamaa
/- THE CELL 'sum', in the pinned program and in every row, IS THE sha256 OF THE DUMP (.gsa) THAT YtpggbbjhbklamaaProg.lean LOADS. Nothing in Lean hashes anything: it is a label: what it is worth is what the hold of that sum in a sandbox is worth. -/
noncomputable def Try.pinned : Pinned := { name := "ytpggbbjhbklamaa", sum := "6c27a4dc351294eb4cc975b7edbb9bbc66066cb7580fe7d9e5f51c640b4a49ea", checked := Try.checked }
namespace Rows
def none {H : Type} : Left H := { results := [], args := [] }

/-- 'mosaiclaw08.IcmpBuilds': WHATEVER THE INPUT: true; the input reads as it did. -/
def icmpBuildsSpec : ChangeSpec := { name := "icmpBuilds", fn := fun _ => fun
  | [d1, d2, d3] => { results := [.lit (.bool true)], args := [d1, d2, d3] }
  | _ => none }
def icmpBuildsRow : OpenClaim := { program := "ytpggbbjhbklamaa", sum := "6c27a4dc351294eb4cc975b7edbb9bbc66066cb7580fe7d9e5f51c640b4a49ea", func := "mosaic/mosaiclaw08.IcmpBuilds", spec := "icmpBuilds", apart := false }
def IcmpBuildsSaid : Prop := icmpBuildsRow.holds Try.pinned (OpenSpec.ofChange icmpBuildsSpec)

/-- ITS FALSE NEIGHBOUR: 'it returns false'. Refute it at one input. -/
def icmpBuildsWrong : ChangeSpec := { name := "icmpBuilds", fn := fun _ => fun
  | [d1, d2, d3] => { results := [.lit (.bool false)], args := [d1, d2, d3] }
  | _ => none }
def IcmpBuildsWrongFalsely : Prop := icmpBuildsRow.holds Try.pinned (OpenSpec.ofChange icmpBuildsWrong)

/-- 'mosaiclaw08.IcmpParses': WHATEVER THE INPUT: true; the input reads as it did. -/
def icmpParsesSpec : ChangeSpec := { name := "icmpParses", fn := fun _ => fun
  | [d1, d2, d3] => { results := [.lit (.bool true)], args := [d1, d2, d3] }
  | _ => none }
def icmpParsesRow : OpenClaim := { program := "ytpggbbjhbklamaa", sum := "6c27a4dc351294eb4cc975b7edbb9bbc66066cb7580fe7d9e5f51c640b4a49ea", func := "mosaic/mosaiclaw08.IcmpParses", spec := "icmpParses", apart := false }
def IcmpParsesSaid : Prop := icmpParsesRow.holds Try.pinned (OpenSpec.ofChange icmpParsesSpec)

/-- ITS FALSE NEIGHBOUR: 'it returns false'. Refute it at one input. -/
def icmpParsesWrong : ChangeSpec := { name := "icmpParses", fn := fun _ => fun
  | [d1, d2, d3] => { results := [.lit (.bool false)], args := [d1, d2, d3] }
  | _ => none }
def IcmpParsesWrongFalsely : Prop := icmpParsesRow.holds Try.pinned (OpenSpec.ofChange icmpParsesWrong)

/-- 'mosaiclaw08.IcmpBack': WHATEVER THE INPUT: true; the input reads as it did. -/
def icmpBackSpec : ChangeSpec := { name := "icmpBack", fn := fun _ => fun
  | [d1, d2, d3, d4] => { results := [.lit (.bool true)], args := [d1, d2, d3, d4] }
  | _ => none }
def icmpBackRow : OpenClaim := { program := "ytpggbbjhbklamaa", sum := "6c27a4dc351294eb4cc975b7edbb9bbc66066cb7580fe7d9e5f51c640b4a49ea", func := "mosaic/mosaiclaw08.IcmpBack", spec := "icmpBack", apart := false }
def IcmpBackSaid : Prop := icmpBackRow.holds Try.pinned (OpenSpec.ofChange icmpBackSpec)

/-- ITS FALSE NEIGHBOUR: 'it returns false'. Refute it at one input. -/
def icmpBackWrong : ChangeSpec := { name := "icmpBack", fn := fun _ => fun
  | [d1, d2, d3, d4] => { results := [.lit (.bool false)], args := [d1, d2, d3, d4] }
  | _ => none }
def IcmpBackWrongFalsely : Prop := icmpBackRow.holds Try.pinned (OpenSpec.ofChange icmpBackWrong)

/-- 'mosaiclaw08.IcmpTurned': WHATEVER THE INPUT: true; the input reads as it did. -/
def icmpTurnedSpec : ChangeSpec := { name := "icmpTurned", fn := fun _ => fun
  | [d1, d2, d3, d4] => { results := [.lit (.bool true)], args := [d1, d2, d3, d4] }
  | _ => none }
def icmpTurnedRow : OpenClaim := { program := "ytpggbbjhbklamaa", sum := "6c27a4dc351294eb4cc975b7edbb9bbc66066cb7580fe7d9e5f51c640b4a49ea", func := "mosaic/mosaiclaw08.IcmpTurned", spec := "icmpTurned", apart := false }
def IcmpTurnedSaid : Prop := icmpTurnedRow.holds Try.pinned (OpenSpec.ofChange icmpTurnedSpec)

/-- ITS FALSE NEIGHBOUR: 'it returns false'. Refute it at one input. -/
def icmpTurnedWrong : ChangeSpec := { name := "icmpTurned", fn := fun _ => fun
  | [d1, d2, d3, d4] => { results := [.lit (.bool false)], args := [d1, d2, d3, d4] }
  | _ => none }
def IcmpTurnedWrongFalsely : Prop := icmpTurnedRow.holds Try.pinned (OpenSpec.ofChange icmpTurnedWrong)

/- THE SECOND FORM. 'bulk': how many values and letters a reading holds, each counted each time it is reached (what is shared counts as often as it is met; a slice's spare places count too). A statement '..UptoSaid' is the law's where the arguments, and the package variables that the reading takes, are together of bulk at most 1048576: NARROWER than '..Said'. Prove '..Said' where nothing that the law and all that it calls make is longer than what came in: it says more and counts as full. Else prove '..UptoSaid'. A law counts once. -/
mutual
def uptoBulk {H : Type} : DataW H → Nat
  | .lit (.string bytes) => bytes.length + 1
  | .lit _ => 1
  | .nil => 1
  | .ptr d => uptoBulk d + 1
  | .slice elems spare => uptoBulkAll elems + uptoBulkAll spare + 1
  | .agg parts => uptoBulkAll parts + 1
  | .iface _ d => uptoBulk d + 1
  | .map entries => uptoBulkEntries entries + 1
  | .held _ => 1
def uptoBulkAll {H : Type} : List (DataW H) → Nat
  | [] => 0
  | d :: r => uptoBulk d + uptoBulkAll r
def uptoBulkEntries {H : Type} : List (Lit × DataW H) → Nat
  | [] => 0
  | x :: r => uptoBulkEntry x + uptoBulkEntries r
def uptoBulkEntry {H : Type} : Lit × DataW H → Nat
  | (.string bytes, d) => bytes.length + uptoBulk d + 1
  | (_, d) => uptoBulk d + 1
 end
def uptoSmall : (H : Type) → List (DataW H) → Bool := fun _ ds => decide (uptoBulkAll ds ≤ 1048576)
def OpenSpec.upto (s : _root_.Go.ChangeSpec) : _root_.Go.OpenSpec := { _root_.Go.OpenSpec.ofChange s with cond := some uptoSmall }

/-- 'mosaiclaw08.IcmpBuilds', WHERE WHAT IT READS IS OF BULK AT MOST 1048576: true; the input reads as it did. -/
def icmpBuildsUptoRow : OpenClaim := { program := "ytpggbbjhbklamaa", sum := "6c27a4dc351294eb4cc975b7edbb9bbc66066cb7580fe7d9e5f51c640b4a49ea", func := "mosaic/mosaiclaw08.IcmpBuilds", spec := "icmpBuilds", apart := false, narrowed := true }
def IcmpBuildsUptoSaid : Prop := icmpBuildsUptoRow.holds Try.pinned (OpenSpec.upto icmpBuildsSpec)

/-- 'mosaiclaw08.IcmpParses', WHERE WHAT IT READS IS OF BULK AT MOST 1048576: true; the input reads as it did. -/
def icmpParsesUptoRow : OpenClaim := { program := "ytpggbbjhbklamaa", sum := "6c27a4dc351294eb4cc975b7edbb9bbc66066cb7580fe7d9e5f51c640b4a49ea", func := "mosaic/mosaiclaw08.IcmpParses", spec := "icmpParses", apart := false, narrowed := true }
def IcmpParsesUptoSaid : Prop := icmpParsesUptoRow.holds Try.pinned (OpenSpec.upto icmpParsesSpec)

/-- 'mosaiclaw08.IcmpBack', WHERE WHAT IT READS IS OF BULK AT MOST 1048576: true; the input reads as it did. -/
def icmpBackUptoRow : OpenClaim := { program := "ytpggbbjhbklamaa", sum := "6c27a4dc351294eb4cc975b7edbb9bbc66066cb7580fe7d9e5f51c640b4a49ea", func := "mosaic/mosaiclaw08.IcmpBack", spec := "icmpBack", apart := false, narrowed := true }
def IcmpBackUptoSaid : Prop := icmpBackUptoRow.holds Try.pinned (OpenSpec.upto icmpBackSpec)

/-- 'mosaiclaw08.IcmpTurned', WHERE WHAT IT READS IS OF BULK AT MOST 1048576: true; the input reads as it did. -/
def icmpTurnedUptoRow : OpenClaim := { program := "ytpggbbjhbklamaa", sum := "6c27a4dc351294eb4cc975b7edbb9bbc66066cb7580fe7d9e5f51c640b4a49ea", func := "mosaic/mosaiclaw08.IcmpTurned", spec := "icmpTurned", apart := false, narrowed := true }
def IcmpTurnedUptoSaid : Prop := icmpTurnedUptoRow.holds Try.pinned (OpenSpec.upto icmpTurnedSpec)

end Rows
end Go.Proofs.Ytpggbbjhbklamaa
