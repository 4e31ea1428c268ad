/-
  DERIVED. GIVEN WITH THE SEED: THE CARDS: each row of YtaecfcaeopmiaaaDoorRows.lean that lists a variable, with what it lists TIED to the program's text (the seventh form; the later family's looks); each row that meets fmt, with fmt's text TOLD by the authors' own Lean function (tested against real Go, not proved from fmt's source: count such statements apart). THE CARD IS WHAT COUNTS. Prove the row's statement (the work); the ties are given (YtaecfcaeopmiaaaDoorTie.lean); close each card by the builder's one call (the guide's Derived/Test/ToyasCard.lean, 'card_holds'). Laid BY PROGRAM, IN A SANDBOX (cutbox-door.mjs). By AI agents, Wed Nov 11 2026. No macro, syntax, notation, axiom, sorry.
-/
import Derived.Test.YtaecfcaeopmiaaaDoorRows
import GoSem.ClaimSeven
namespace Go.Proofs.YtaecfcaeopmiaaaDoor
namespace Rows

/-- THE TIED CARD OF 'mosaiclaw05.Ip4Parses'. -/
def ip4ParsesCard : Claim7 := { stood := { row := ip4ParsesRow, standIns := [], harness := (true, "426c587f35d59c3f1144945eb9b2d87775bccb1cbff3d50410dcc1d9d6de6be4"), looks := false }, kinds := [], alts := [], laidByText := true, laidKinds := [.data], laidTests := true, laidLooks := .later }
def Ip4ParsesCardSaid : Prop := Claim7.holds Tryd.pinned (.plain (OpenSpec.ofChange ip4ParsesSpec)) ip4ParsesCard

/-- THE TIED CARD OF 'mosaiclaw05.Ip4Builds'. -/
def ip4BuildsCard : Claim7 := { stood := { row := ip4BuildsRow, standIns := [], harness := (true, "426c587f35d59c3f1144945eb9b2d87775bccb1cbff3d50410dcc1d9d6de6be4"), looks := false }, kinds := [], alts := [], laidByText := true, laidKinds := [.data], laidTests := true, laidLooks := .later }
def Ip4BuildsCardSaid : Prop := Claim7.holds Tryd.pinned (.plain (OpenSpec.ofChange ip4BuildsSpec)) ip4BuildsCard

/-- THE TIED CARD OF 'mosaiclaw05.Ip4Back'. -/
def ip4BackCard : Claim7 := { stood := { row := ip4BackRow, standIns := [], harness := (true, "426c587f35d59c3f1144945eb9b2d87775bccb1cbff3d50410dcc1d9d6de6be4"), looks := false }, kinds := [], alts := [], laidByText := true, laidKinds := [.data], laidTests := true, laidLooks := .later }
def Ip4BackCardSaid : Prop := Claim7.holds Tryd.pinned (.plain (OpenSpec.ofChange ip4BackSpec)) ip4BackCard

/-- THE TIED CARD OF 'mosaiclaw05.Ip4Fields'. -/
def ip4FieldsCard : Claim7 := { stood := { row := ip4FieldsRow, standIns := [], harness := (true, "426c587f35d59c3f1144945eb9b2d87775bccb1cbff3d50410dcc1d9d6de6be4"), looks := false }, kinds := [], alts := [], laidByText := true, laidKinds := [.data], laidTests := true, laidLooks := .later }
def Ip4FieldsCardSaid : Prop := Claim7.holds Tryd.pinned (.plain (OpenSpec.ofChange ip4FieldsSpec)) ip4FieldsCard

/-- THE TIED CARD OF 'mosaiclaw05.Ip4Turned'. -/
def ip4TurnedCard : Claim7 := { stood := { row := ip4TurnedRow, standIns := [], harness := (true, "426c587f35d59c3f1144945eb9b2d87775bccb1cbff3d50410dcc1d9d6de6be4"), looks := false }, kinds := [], alts := [], laidByText := true, laidKinds := [.data], laidTests := true, laidLooks := .later }
def Ip4TurnedCardSaid : Prop := Claim7.holds Tryd.pinned (.plain (OpenSpec.ofChange ip4TurnedSpec)) ip4TurnedCard

/-- THE TIED CARD OF 'mosaiclaw05.Ip4Differ'. -/
def ip4DifferCard : Claim7 := { stood := { row := ip4DifferRow, standIns := [], harness := (true, "426c587f35d59c3f1144945eb9b2d87775bccb1cbff3d50410dcc1d9d6de6be4"), looks := false }, kinds := [], alts := [], laidByText := true, laidKinds := [.data], laidTests := true, laidLooks := .later }
def Ip4DifferCardSaid : Prop := Claim7.holds Tryd.pinned (.plain (OpenSpec.ofChange ip4DifferSpec)) ip4DifferCard

/-- THE TIED CARD OF 'mosaiclaw05.Ip4Refuses'. -/
def ip4RefusesCard : Claim7 := { stood := { row := ip4RefusesRow, standIns := [], harness := (true, "426c587f35d59c3f1144945eb9b2d87775bccb1cbff3d50410dcc1d9d6de6be4"), looks := false }, kinds := [], alts := [], laidByText := true, laidKinds := [.data], laidTests := true, laidLooks := .later }
def Ip4RefusesCardSaid : Prop := Claim7.holds Tryd.pinned (.plain (OpenSpec.ofChange ip4RefusesSpec)) ip4RefusesCard

/-- THE TIED CARD OF 'mosaiclaw05.Ip4Memory'. -/
def ip4MemoryCard : Claim7 := { stood := { row := ip4MemoryRow, standIns := [], harness := (true, "426c587f35d59c3f1144945eb9b2d87775bccb1cbff3d50410dcc1d9d6de6be4"), looks := false }, kinds := [], alts := [], laidByText := true, laidKinds := [.data], laidTests := true, laidLooks := .later }
def Ip4MemoryCardSaid : Prop := Claim7.holds Tryd.pinned (.plain (OpenSpec.ofChange ip4MemorySpec)) ip4MemoryCard

/-- THE SECOND FORM's CARD OF 'mosaiclaw05.Ip4Parses'. -/
def ip4ParsesUptoCard : Claim7 := { stood := { row := ip4ParsesUptoRow, standIns := [], harness := (true, "426c587f35d59c3f1144945eb9b2d87775bccb1cbff3d50410dcc1d9d6de6be4"), looks := false }, kinds := [], alts := [], laidByText := true, laidKinds := [.data], laidTests := true, laidLooks := .later }
def Ip4ParsesUptoCardSaid : Prop := Claim7.holds Tryd.pinned (.plain (OpenSpec.upto ip4ParsesSpec)) ip4ParsesUptoCard

/-- THE SECOND FORM's CARD OF 'mosaiclaw05.Ip4Builds'. -/
def ip4BuildsUptoCard : Claim7 := { stood := { row := ip4BuildsUptoRow, standIns := [], harness := (true, "426c587f35d59c3f1144945eb9b2d87775bccb1cbff3d50410dcc1d9d6de6be4"), looks := false }, kinds := [], alts := [], laidByText := true, laidKinds := [.data], laidTests := true, laidLooks := .later }
def Ip4BuildsUptoCardSaid : Prop := Claim7.holds Tryd.pinned (.plain (OpenSpec.upto ip4BuildsSpec)) ip4BuildsUptoCard

/-- THE SECOND FORM's CARD OF 'mosaiclaw05.Ip4Back'. -/
def ip4BackUptoCard : Claim7 := { stood := { row := ip4BackUptoRow, standIns := [], harness := (true, "426c587f35d59c3f1144945eb9b2d87775bccb1cbff3d50410dcc1d9d6de6be4"), looks := false }, kinds := [], alts := [], laidByText := true, laidKinds := [.data], laidTests := true, laidLooks := .later }
def Ip4BackUptoCardSaid : Prop := Claim7.holds Tryd.pinned (.plain (OpenSpec.upto ip4BackSpec)) ip4BackUptoCard

/-- THE SECOND FORM's CARD OF 'mosaiclaw05.Ip4Fields'. -/
def ip4FieldsUptoCard : Claim7 := { stood := { row := ip4FieldsUptoRow, standIns := [], harness := (true, "426c587f35d59c3f1144945eb9b2d87775bccb1cbff3d50410dcc1d9d6de6be4"), looks := false }, kinds := [], alts := [], laidByText := true, laidKinds := [.data], laidTests := true, laidLooks := .later }
def Ip4FieldsUptoCardSaid : Prop := Claim7.holds Tryd.pinned (.plain (OpenSpec.upto ip4FieldsSpec)) ip4FieldsUptoCard

/-- THE SECOND FORM's CARD OF 'mosaiclaw05.Ip4Turned'. -/
def ip4TurnedUptoCard : Claim7 := { stood := { row := ip4TurnedUptoRow, standIns := [], harness := (true, "426c587f35d59c3f1144945eb9b2d87775bccb1cbff3d50410dcc1d9d6de6be4"), looks := false }, kinds := [], alts := [], laidByText := true, laidKinds := [.data], laidTests := true, laidLooks := .later }
def Ip4TurnedUptoCardSaid : Prop := Claim7.holds Tryd.pinned (.plain (OpenSpec.upto ip4TurnedSpec)) ip4TurnedUptoCard

/-- THE SECOND FORM's CARD OF 'mosaiclaw05.Ip4Differ'. -/
def ip4DifferUptoCard : Claim7 := { stood := { row := ip4DifferUptoRow, standIns := [], harness := (true, "426c587f35d59c3f1144945eb9b2d87775bccb1cbff3d50410dcc1d9d6de6be4"), looks := false }, kinds := [], alts := [], laidByText := true, laidKinds := [.data], laidTests := true, laidLooks := .later }
def Ip4DifferUptoCardSaid : Prop := Claim7.holds Tryd.pinned (.plain (OpenSpec.upto ip4DifferSpec)) ip4DifferUptoCard

/-- THE SECOND FORM's CARD OF 'mosaiclaw05.Ip4Refuses'. -/
def ip4RefusesUptoCard : Claim7 := { stood := { row := ip4RefusesUptoRow, standIns := [], harness := (true, "426c587f35d59c3f1144945eb9b2d87775bccb1cbff3d50410dcc1d9d6de6be4"), looks := false }, kinds := [], alts := [], laidByText := true, laidKinds := [.data], laidTests := true, laidLooks := .later }
def Ip4RefusesUptoCardSaid : Prop := Claim7.holds Tryd.pinned (.plain (OpenSpec.upto ip4RefusesSpec)) ip4RefusesUptoCard

/-- THE SECOND FORM's CARD OF 'mosaiclaw05.Ip4Memory'. -/
def ip4MemoryUptoCard : Claim7 := { stood := { row := ip4MemoryUptoRow, standIns := [], harness := (true, "426c587f35d59c3f1144945eb9b2d87775bccb1cbff3d50410dcc1d9d6de6be4"), looks := false }, kinds := [], alts := [], laidByText := true, laidKinds := [.data], laidTests := true, laidLooks := .later }
def Ip4MemoryUptoCardSaid : Prop := Claim7.holds Tryd.pinned (.plain (OpenSpec.upto ip4MemorySpec)) ip4MemoryUptoCard
end Rows
end Go.Proofs.YtaecfcaeopmiaaaDoor
