/-
  No cell of these rows narrows 'for every input' (looked for: loops, veiled, ifaces, maps, wideKeys, modest, calm, conditions, laid).
  DERIVED. THE GIVEN ROWS OF THIS SEAT. 7 by the template 'for every input the law returns true; each argument reads behind the call as it read before'; 0 by the template 'total and deterministic' (their statements: YthbdnmmmibdgpaaTotals.lean).
  GIVEN WITH THE SEED: the statements are not yours to turn. If you find one false, say at which input.
  Laid BY PROGRAM, IN A SANDBOX (cutbox-rows.mjs): the forced cells as the released guide's own fill.sh prints them over the translation 5a117eb48a65449f… (all of the seat's roots in one cut). By AI agents, Wed Nov 11 2026. No macro, syntax, notation, axiom, sorry.
-/
import Derived.Test.YthbdnmmmibdgpaaChecked
import GoSem.Claim
import GoSem.ClaimJoined
import GoSem.ClaimMapViews
import Derived.JoinedTies
import Derived.KernelRfl
namespace Go.Proofs.Ythbdnmmmibdgpaa
/- THE CELL 'sum', in the pinned program and in every row, IS THE sha256 OF THE DUMP (.gsa) THAT YthbdnmmmibdgpaaProg.lean LOADS. Nothing in Lean hashes anything: it is a label: what it is worth is what the hold of that sum in a sandbox is worth. -/
noncomputable def Try.pinned : Pinned := { name := "ythbdnmmmibdgpaa", sum := "5a117eb48a65449f43a437a85957dbee78215caa6b0c99b417e4f3ba0c7dfccd", checked := Try.checked }
namespace Rows
def none {H : Type} : Left H := { results := [], args := [] }

/-- 'mosaiclaw06.Ip6Lays': WHATEVER THE INPUT: true; the input reads as it did. -/
def ip6LaysSpec : ChangeSpec := { name := "ip6Lays", fn := fun _ => fun
  | [d] => { results := [.lit (.bool true)], args := [d] }
  | _ => none }
def ip6LaysRow : OpenClaim := { program := "ythbdnmmmibdgpaa", sum := "5a117eb48a65449f43a437a85957dbee78215caa6b0c99b417e4f3ba0c7dfccd", func := "mosaic/mosaiclaw06.Ip6Lays", spec := "ip6Lays", apart := false }
def Ip6LaysSaid : Prop := ip6LaysRow.holds Try.pinned (OpenSpec.ofChange ip6LaysSpec)

/-- ITS FALSE NEIGHBOUR: 'it returns false'. Refute it at one input. -/
def ip6LaysWrong : ChangeSpec := { name := "ip6Lays", fn := fun _ => fun
  | [d] => { results := [.lit (.bool false)], args := [d] }
  | _ => none }
def Ip6LaysWrongFalsely : Prop := ip6LaysRow.holds Try.pinned (OpenSpec.ofChange ip6LaysWrong)

/-- 'mosaiclaw06.Ip6Reads': WHATEVER THE INPUT: true; the input reads as it did. -/
def ip6ReadsSpec : ChangeSpec := { name := "ip6Reads", fn := fun _ => fun
  | [d] => { results := [.lit (.bool true)], args := [d] }
  | _ => none }
def ip6ReadsRow : OpenClaim := { program := "ythbdnmmmibdgpaa", sum := "5a117eb48a65449f43a437a85957dbee78215caa6b0c99b417e4f3ba0c7dfccd", func := "mosaic/mosaiclaw06.Ip6Reads", spec := "ip6Reads", apart := false }
def Ip6ReadsSaid : Prop := ip6ReadsRow.holds Try.pinned (OpenSpec.ofChange ip6ReadsSpec)

/-- ITS FALSE NEIGHBOUR: 'it returns false'. Refute it at one input. -/
def ip6ReadsWrong : ChangeSpec := { name := "ip6Reads", fn := fun _ => fun
  | [d] => { results := [.lit (.bool false)], args := [d] }
  | _ => none }
def Ip6ReadsWrongFalsely : Prop := ip6ReadsRow.holds Try.pinned (OpenSpec.ofChange ip6ReadsWrong)

/-- 'mosaiclaw06.Ip6Back': WHATEVER THE INPUT: true; the input reads as it did. -/
def ip6BackSpec : ChangeSpec := { name := "ip6Back", fn := fun _ => fun
  | [d1, d2] => { results := [.lit (.bool true)], args := [d1, d2] }
  | _ => none }
def ip6BackRow : OpenClaim := { program := "ythbdnmmmibdgpaa", sum := "5a117eb48a65449f43a437a85957dbee78215caa6b0c99b417e4f3ba0c7dfccd", func := "mosaic/mosaiclaw06.Ip6Back", spec := "ip6Back", apart := false }
def Ip6BackSaid : Prop := ip6BackRow.holds Try.pinned (OpenSpec.ofChange ip6BackSpec)

/-- ITS FALSE NEIGHBOUR: 'it returns false'. Refute it at one input. -/
def ip6BackWrong : ChangeSpec := { name := "ip6Back", fn := fun _ => fun
  | [d1, d2] => { results := [.lit (.bool false)], args := [d1, d2] }
  | _ => none }
def Ip6BackWrongFalsely : Prop := ip6BackRow.holds Try.pinned (OpenSpec.ofChange ip6BackWrong)

/-- 'mosaiclaw06.Ip6Fields': WHATEVER THE INPUT: true; the input reads as it did. -/
def ip6FieldsSpec : ChangeSpec := { name := "ip6Fields", fn := fun _ => fun
  | [d] => { results := [.lit (.bool true)], args := [d] }
  | _ => none }
def ip6FieldsRow : OpenClaim := { program := "ythbdnmmmibdgpaa", sum := "5a117eb48a65449f43a437a85957dbee78215caa6b0c99b417e4f3ba0c7dfccd", func := "mosaic/mosaiclaw06.Ip6Fields", spec := "ip6Fields", apart := false }
def Ip6FieldsSaid : Prop := ip6FieldsRow.holds Try.pinned (OpenSpec.ofChange ip6FieldsSpec)

/-- ITS FALSE NEIGHBOUR: 'it returns false'. Refute it at one input. -/
def ip6FieldsWrong : ChangeSpec := { name := "ip6Fields", fn := fun _ => fun
  | [d] => { results := [.lit (.bool false)], args := [d] }
  | _ => none }
def Ip6FieldsWrongFalsely : Prop := ip6FieldsRow.holds Try.pinned (OpenSpec.ofChange ip6FieldsWrong)

/-- 'mosaiclaw06.Ip6Spoils': WHATEVER THE INPUT: true; the input reads as it did. -/
def ip6SpoilsSpec : ChangeSpec := { name := "ip6Spoils", fn := fun _ => fun
  | [d1, d2, d3] => { results := [.lit (.bool true)], args := [d1, d2, d3] }
  | _ => none }
def ip6SpoilsRow : OpenClaim := { program := "ythbdnmmmibdgpaa", sum := "5a117eb48a65449f43a437a85957dbee78215caa6b0c99b417e4f3ba0c7dfccd", func := "mosaic/mosaiclaw06.Ip6Spoils", spec := "ip6Spoils", apart := false }
def Ip6SpoilsSaid : Prop := ip6SpoilsRow.holds Try.pinned (OpenSpec.ofChange ip6SpoilsSpec)

/-- ITS FALSE NEIGHBOUR: 'it returns false'. Refute it at one input. -/
def ip6SpoilsWrong : ChangeSpec := { name := "ip6Spoils", fn := fun _ => fun
  | [d1, d2, d3] => { results := [.lit (.bool false)], args := [d1, d2, d3] }
  | _ => none }
def Ip6SpoilsWrongFalsely : Prop := ip6SpoilsRow.holds Try.pinned (OpenSpec.ofChange ip6SpoilsWrong)

/-- 'mosaiclaw06.Ip6Cuts': WHATEVER THE INPUT: true; the input reads as it did. -/
def ip6CutsSpec : ChangeSpec := { name := "ip6Cuts", fn := fun _ => fun
  | [d1, d2, d3] => { results := [.lit (.bool true)], args := [d1, d2, d3] }
  | _ => none }
def ip6CutsRow : OpenClaim := { program := "ythbdnmmmibdgpaa", sum := "5a117eb48a65449f43a437a85957dbee78215caa6b0c99b417e4f3ba0c7dfccd", func := "mosaic/mosaiclaw06.Ip6Cuts", spec := "ip6Cuts", apart := false }
def Ip6CutsSaid : Prop := ip6CutsRow.holds Try.pinned (OpenSpec.ofChange ip6CutsSpec)

/-- ITS FALSE NEIGHBOUR: 'it returns false'. Refute it at one input. -/
def ip6CutsWrong : ChangeSpec := { name := "ip6Cuts", fn := fun _ => fun
  | [d1, d2, d3] => { results := [.lit (.bool false)], args := [d1, d2, d3] }
  | _ => none }
def Ip6CutsWrongFalsely : Prop := ip6CutsRow.holds Try.pinned (OpenSpec.ofChange ip6CutsWrong)

/-- 'mosaiclaw06.Ip6Memory': WHATEVER THE INPUT: true; the input reads as it did. -/
def ip6MemorySpec : ChangeSpec := { name := "ip6Memory", fn := fun _ => fun
  | [d] => { results := [.lit (.bool true)], args := [d] }
  | _ => none }
def ip6MemoryRow : OpenClaim := { program := "ythbdnmmmibdgpaa", sum := "5a117eb48a65449f43a437a85957dbee78215caa6b0c99b417e4f3ba0c7dfccd", func := "mosaic/mosaiclaw06.Ip6Memory", spec := "ip6Memory", apart := false }
def Ip6MemorySaid : Prop := ip6MemoryRow.holds Try.pinned (OpenSpec.ofChange ip6MemorySpec)

/-- ITS FALSE NEIGHBOUR: 'it returns false'. Refute it at one input. -/
def ip6MemoryWrong : ChangeSpec := { name := "ip6Memory", fn := fun _ => fun
  | [d] => { results := [.lit (.bool false)], args := [d] }
  | _ => none }
def Ip6MemoryWrongFalsely : Prop := ip6MemoryRow.holds Try.pinned (OpenSpec.ofChange ip6MemoryWrong)

/- THE SECOND FORM. 'bulk': how many values and letters a reading holds, each counted each time it is reached (what is shared counts as often as it is met; a slice's spare places count too). A statement '..UptoSaid' is the law's where the arguments, and the package variables that the reading takes, are together of bulk at most 1048576: NARROWER than '..Said'. Prove '..Said' where nothing that the law and all that it calls make is longer than what came in: it says more and counts as full. Else prove '..UptoSaid'. A law counts once. -/
mutual
def uptoBulk {H : Type} : DataW H → Nat
  | .lit (.string bytes) => bytes.length + 1
  | .lit _ => 1
  | .nil => 1
  | .ptr d => uptoBulk d + 1
  | .slice elems spare => uptoBulkAll elems + uptoBulkAll spare + 1
  | .agg parts => uptoBulkAll parts + 1
  | .iface _ d => uptoBulk d + 1
  | .map entries => uptoBulkEntries entries + 1
  | .held _ => 1
def uptoBulkAll {H : Type} : List (DataW H) → Nat
  | [] => 0
  | d :: r => uptoBulk d + uptoBulkAll r
def uptoBulkEntries {H : Type} : List (Lit × DataW H) → Nat
  | [] => 0
  | x :: r => uptoBulkEntry x + uptoBulkEntries r
def uptoBulkEntry {H : Type} : Lit × DataW H → Nat
  | (.string bytes, d) => bytes.length + uptoBulk d + 1
  | (_, d) => uptoBulk d + 1
 end
def uptoSmall : (H : Type) → List (DataW H) → Bool := fun _ ds => decide (uptoBulkAll ds ≤ 1048576)
def OpenSpec.upto (s : _root_.Go.ChangeSpec) : _root_.Go.OpenSpec := { _root_.Go.OpenSpec.ofChange s with cond := some uptoSmall }

/-- 'mosaiclaw06.Ip6Lays', WHERE WHAT IT READS IS OF BULK AT MOST 1048576: true; the input reads as it did. -/
def ip6LaysUptoRow : OpenClaim := { program := "ythbdnmmmibdgpaa", sum := "5a117eb48a65449f43a437a85957dbee78215caa6b0c99b417e4f3ba0c7dfccd", func := "mosaic/mosaiclaw06.Ip6Lays", spec := "ip6Lays", apart := false, narrowed := true }
def Ip6LaysUptoSaid : Prop := ip6LaysUptoRow.holds Try.pinned (OpenSpec.upto ip6LaysSpec)

/-- 'mosaiclaw06.Ip6Reads', WHERE WHAT IT READS IS OF BULK AT MOST 1048576: true; the input reads as it did. -/
def ip6ReadsUptoRow : OpenClaim := { program := "ythbdnmmmibdgpaa", sum := "5a117eb48a65449f43a437a85957dbee78215caa6b0c99b417e4f3ba0c7dfccd", func := "mosaic/mosaiclaw06.Ip6Reads", spec := "ip6Reads", apart := false, narrowed := true }
def Ip6ReadsUptoSaid : Prop := ip6ReadsUptoRow.holds Try.pinned (OpenSpec.upto ip6ReadsSpec)

/-- 'mosaiclaw06.Ip6Back', WHERE WHAT IT READS IS OF BULK AT MOST 1048576: true; the input reads as it did. -/
def ip6BackUptoRow : OpenClaim := { program := "ythbdnmmmibdgpaa", sum := "5a117eb48a65449f43a437a85957dbee78215caa6b0c99b417e4f3ba0c7dfccd", func := "mosaic/mosaiclaw06.Ip6Back", spec := "ip6Back", apart := false, narrowed := true }
def Ip6BackUptoSaid : Prop := ip6BackUptoRow.holds Try.pinned (OpenSpec.upto ip6BackSpec)

/-- 'mosaiclaw06.Ip6Fields', WHERE WHAT IT READS IS OF BULK AT MOST 1048576: true; the input reads as it did. -/
def ip6FieldsUptoRow : OpenClaim := { program := "ythbdnmmmibdgpaa", sum := "5a117eb48a65449f43a437a85957dbee78215caa6b0c99b417e4f3ba0c7dfccd", func := "mosaic/mosaiclaw06.Ip6Fields", spec := "ip6Fields", apart := false, narrowed := true }
def Ip6FieldsUptoSaid : Prop := ip6FieldsUptoRow.holds Try.pinned (OpenSpec.upto ip6FieldsSpec)

/-- 'mosaiclaw06.Ip6Spoils', WHERE WHAT IT READS IS OF BULK AT MOST 1048576: true; the input reads as it did. -/
def ip6SpoilsUptoRow : OpenClaim := { program := "ythbdnmmmibdgpaa", sum := "5a117eb48a65449f43a437a85957dbee78215caa6b0c99b417e4f3ba0c7dfccd", func := "mosaic/mosaiclaw06.Ip6Spoils", spec := "ip6Spoils", apart := false, narrowed := true }
def Ip6SpoilsUptoSaid : Prop := ip6SpoilsUptoRow.holds Try.pinned (OpenSpec.upto ip6SpoilsSpec)

/-- 'mosaiclaw06.Ip6Cuts', WHERE WHAT IT READS IS OF BULK AT MOST 1048576: true; the input reads as it did. -/
def ip6CutsUptoRow : OpenClaim := { program := "ythbdnmmmibdgpaa", sum := "5a117eb48a65449f43a437a85957dbee78215caa6b0c99b417e4f3ba0c7dfccd", func := "mosaic/mosaiclaw06.Ip6Cuts", spec := "ip6Cuts", apart := false, narrowed := true }
def Ip6CutsUptoSaid : Prop := ip6CutsUptoRow.holds Try.pinned (OpenSpec.upto ip6CutsSpec)

/-- 'mosaiclaw06.Ip6Memory', WHERE WHAT IT READS IS OF BULK AT MOST 1048576: true; the input reads as it did. -/
def ip6MemoryUptoRow : OpenClaim := { program := "ythbdnmmmibdgpaa", sum := "5a117eb48a65449f43a437a85957dbee78215caa6b0c99b417e4f3ba0c7dfccd", func := "mosaic/mosaiclaw06.Ip6Memory", spec := "ip6Memory", apart := false, narrowed := true }
def Ip6MemoryUptoSaid : Prop := ip6MemoryUptoRow.holds Try.pinned (OpenSpec.upto ip6MemorySpec)

end Rows
end Go.Proofs.Ythbdnmmmibdgpaa
