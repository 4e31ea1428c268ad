/-
  DERIVED. GIVEN WITH THE SEED: THE CARDS: each row of YtebfbpfikbjjlaaDoorRows.lean that lists a variable, with what it lists TIED to the program's text (the seventh form; the later family's looks); each row that meets fmt, with fmt's text TOLD by the authors' own Lean function (tested against real Go, not proved from fmt's source: count such statements apart). THE CARD IS WHAT COUNTS. Prove the row's statement (the work); the ties are given (YtebfbpfikbjjlaaDoorTie.lean); close each card by the builder's one call (the guide's Derived/Test/ToyasCard.lean, 'card_holds'). Laid BY PROGRAM, IN A SANDBOX (cutbox-door.mjs). By AI agents, Wed Nov 11 2026. No macro, syntax, notation, axiom, sorry.
-/
import Derived.Test.YtebfbpfikbjjlaaDoorRows
import GoSem.ClaimSeven
namespace Go.Proofs.YtebfbpfikbjjlaaDoor
namespace Rows

/-- THE TIED CARD OF 'mosaiclaw04.OptsParses'. -/
def optsParsesCard : Claim7 := { stood := { row := optsParsesRow, standIns := [], harness := (true, "82dce80d1a5a6bc71752ef81ee1dcaefb60de1f651d8542956b8c29cc16585d6"), looks := false }, kinds := [], alts := [], laidByText := true, laidKinds := [.data], laidTests := true, laidLooks := .later }
def OptsParsesCardSaid : Prop := Claim7.holds Tryd.pinned (.plain (OpenSpec.ofChange optsParsesSpec)) optsParsesCard

/-- THE TIED CARD OF 'mosaiclaw04.OptsBuilds'. -/
def optsBuildsCard : Claim7 := { stood := { row := optsBuildsRow, standIns := [], harness := (true, "82dce80d1a5a6bc71752ef81ee1dcaefb60de1f651d8542956b8c29cc16585d6"), looks := false }, kinds := [], alts := [], laidByText := true, laidKinds := [.data], laidTests := true, laidLooks := .later }
def OptsBuildsCardSaid : Prop := Claim7.holds Tryd.pinned (.plain (OpenSpec.ofChange optsBuildsSpec)) optsBuildsCard

/-- THE TIED CARD OF 'mosaiclaw04.OptsBack'. -/
def optsBackCard : Claim7 := { stood := { row := optsBackRow, standIns := [], harness := (true, "82dce80d1a5a6bc71752ef81ee1dcaefb60de1f651d8542956b8c29cc16585d6"), looks := false }, kinds := [], alts := [], laidByText := true, laidKinds := [.data], laidTests := true, laidLooks := .later }
def OptsBackCardSaid : Prop := Claim7.holds Tryd.pinned (.plain (OpenSpec.ofChange optsBackSpec)) optsBackCard

/-- THE TIED CARD OF 'mosaiclaw04.OptsForms'. -/
def optsFormsCard : Claim7 := { stood := { row := optsFormsRow, standIns := [], harness := (true, "82dce80d1a5a6bc71752ef81ee1dcaefb60de1f651d8542956b8c29cc16585d6"), looks := false }, kinds := [], alts := [], laidByText := true, laidKinds := [.data], laidTests := true, laidLooks := .later }
def OptsFormsCardSaid : Prop := Claim7.holds Tryd.pinned (.plain (OpenSpec.ofChange optsFormsSpec)) optsFormsCard

/-- THE TIED CARD OF 'mosaiclaw04.OptsPieces'. -/
def optsPiecesCard : Claim7 := { stood := { row := optsPiecesRow, standIns := [], harness := (true, "82dce80d1a5a6bc71752ef81ee1dcaefb60de1f651d8542956b8c29cc16585d6"), looks := false }, kinds := [], alts := [], laidByText := true, laidKinds := [.data], laidTests := true, laidLooks := .later }
def OptsPiecesCardSaid : Prop := Claim7.holds Tryd.pinned (.plain (OpenSpec.ofChange optsPiecesSpec)) optsPiecesCard

/-- THE TIED CARD OF 'mosaiclaw04.OptsCarries'. -/
def optsCarriesCard : Claim7 := { stood := { row := optsCarriesRow, standIns := [], harness := (true, "82dce80d1a5a6bc71752ef81ee1dcaefb60de1f651d8542956b8c29cc16585d6"), looks := false }, kinds := [], alts := [], laidByText := true, laidKinds := [.data], laidTests := true, laidLooks := .later }
def OptsCarriesCardSaid : Prop := Claim7.holds Tryd.pinned (.plain (OpenSpec.ofChange optsCarriesSpec)) optsCarriesCard

/-- THE TIED CARD OF 'mosaiclaw04.OptsKeeps'. -/
def optsKeepsCard : Claim7 := { stood := { row := optsKeepsRow, standIns := [], harness := (true, "82dce80d1a5a6bc71752ef81ee1dcaefb60de1f651d8542956b8c29cc16585d6"), looks := false }, kinds := [], alts := [], laidByText := true, laidKinds := [.data], laidTests := true, laidLooks := .later }
def OptsKeepsCardSaid : Prop := Claim7.holds Tryd.pinned (.plain (OpenSpec.ofChange optsKeepsSpec)) optsKeepsCard

/-- THE SECOND FORM's CARD OF 'mosaiclaw04.OptsParses'. -/
def optsParsesUptoCard : Claim7 := { stood := { row := optsParsesUptoRow, standIns := [], harness := (true, "82dce80d1a5a6bc71752ef81ee1dcaefb60de1f651d8542956b8c29cc16585d6"), looks := false }, kinds := [], alts := [], laidByText := true, laidKinds := [.data], laidTests := true, laidLooks := .later }
def OptsParsesUptoCardSaid : Prop := Claim7.holds Tryd.pinned (.plain (OpenSpec.upto optsParsesSpec)) optsParsesUptoCard

/-- THE SECOND FORM's CARD OF 'mosaiclaw04.OptsBuilds'. -/
def optsBuildsUptoCard : Claim7 := { stood := { row := optsBuildsUptoRow, standIns := [], harness := (true, "82dce80d1a5a6bc71752ef81ee1dcaefb60de1f651d8542956b8c29cc16585d6"), looks := false }, kinds := [], alts := [], laidByText := true, laidKinds := [.data], laidTests := true, laidLooks := .later }
def OptsBuildsUptoCardSaid : Prop := Claim7.holds Tryd.pinned (.plain (OpenSpec.upto optsBuildsSpec)) optsBuildsUptoCard

/-- THE SECOND FORM's CARD OF 'mosaiclaw04.OptsBack'. -/
def optsBackUptoCard : Claim7 := { stood := { row := optsBackUptoRow, standIns := [], harness := (true, "82dce80d1a5a6bc71752ef81ee1dcaefb60de1f651d8542956b8c29cc16585d6"), looks := false }, kinds := [], alts := [], laidByText := true, laidKinds := [.data], laidTests := true, laidLooks := .later }
def OptsBackUptoCardSaid : Prop := Claim7.holds Tryd.pinned (.plain (OpenSpec.upto optsBackSpec)) optsBackUptoCard

/-- THE SECOND FORM's CARD OF 'mosaiclaw04.OptsForms'. -/
def optsFormsUptoCard : Claim7 := { stood := { row := optsFormsUptoRow, standIns := [], harness := (true, "82dce80d1a5a6bc71752ef81ee1dcaefb60de1f651d8542956b8c29cc16585d6"), looks := false }, kinds := [], alts := [], laidByText := true, laidKinds := [.data], laidTests := true, laidLooks := .later }
def OptsFormsUptoCardSaid : Prop := Claim7.holds Tryd.pinned (.plain (OpenSpec.upto optsFormsSpec)) optsFormsUptoCard

/-- THE SECOND FORM's CARD OF 'mosaiclaw04.OptsPieces'. -/
def optsPiecesUptoCard : Claim7 := { stood := { row := optsPiecesUptoRow, standIns := [], harness := (true, "82dce80d1a5a6bc71752ef81ee1dcaefb60de1f651d8542956b8c29cc16585d6"), looks := false }, kinds := [], alts := [], laidByText := true, laidKinds := [.data], laidTests := true, laidLooks := .later }
def OptsPiecesUptoCardSaid : Prop := Claim7.holds Tryd.pinned (.plain (OpenSpec.upto optsPiecesSpec)) optsPiecesUptoCard

/-- THE SECOND FORM's CARD OF 'mosaiclaw04.OptsCarries'. -/
def optsCarriesUptoCard : Claim7 := { stood := { row := optsCarriesUptoRow, standIns := [], harness := (true, "82dce80d1a5a6bc71752ef81ee1dcaefb60de1f651d8542956b8c29cc16585d6"), looks := false }, kinds := [], alts := [], laidByText := true, laidKinds := [.data], laidTests := true, laidLooks := .later }
def OptsCarriesUptoCardSaid : Prop := Claim7.holds Tryd.pinned (.plain (OpenSpec.upto optsCarriesSpec)) optsCarriesUptoCard

/-- THE SECOND FORM's CARD OF 'mosaiclaw04.OptsKeeps'. -/
def optsKeepsUptoCard : Claim7 := { stood := { row := optsKeepsUptoRow, standIns := [], harness := (true, "82dce80d1a5a6bc71752ef81ee1dcaefb60de1f651d8542956b8c29cc16585d6"), looks := false }, kinds := [], alts := [], laidByText := true, laidKinds := [.data], laidTests := true, laidLooks := .later }
def OptsKeepsUptoCardSaid : Prop := Claim7.holds Tryd.pinned (.plain (OpenSpec.upto optsKeepsSpec)) optsKeepsUptoCard
end Rows
end Go.Proofs.YtebfbpfikbjjlaaDoor
