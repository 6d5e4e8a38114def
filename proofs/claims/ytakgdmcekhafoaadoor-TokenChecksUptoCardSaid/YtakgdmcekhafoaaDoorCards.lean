/-
  DERIVED. GIVEN WITH THE SEED: THE CARDS: each row of YtakgdmcekhafoaaDoorRows.lean that lists a variable, with what it lists TIED to the program's text (the seventh form; the later family's looks); each row that meets fmt, with fmt's text TOLD by the authors' own Lean function (tested against real Go, not proved from fmt's source: count such statements apart). THE CARD IS WHAT COUNTS. Prove the row's statement (the work); the ties are given (YtakgdmcekhafoaaDoorTie.lean); close each card by the builder's one call (the guide's Derived/Test/ToyasCard.lean, 'card_holds'). Laid BY PROGRAM, IN A SANDBOX (cutbox-door.mjs). By AI agents, Wed Nov 11 2026. No macro, syntax, notation, axiom, sorry.
-/
import Derived.Test.YtakgdmcekhafoaaDoorRows
import GoSem.ClaimSeven
namespace Go.Proofs.YtakgdmcekhafoaaDoor
namespace Rows

/-- THE TIED CARD OF 'rostrumlaw22.TokenMakes'. -/
def tokenMakesCard : Claim7 := { stood := { row := tokenMakesRow, standIns := [], harness := (true, "22e5fea87fbe303a9fdc6248b72b91fe5f7654bf4efbb73cdba9eee0b99a73b3"), looks := true }, kinds := [], alts := [], laidByText := true, laidKinds := [.data, .data, .data], laidTests := true, laidLooks := .later }
def TokenMakesCardSaid : Prop := Claim7.holds Tryd.pinned (.plain (OpenSpec.ofChange tokenMakesSpec)) tokenMakesCard

/-- THE TIED CARD OF 'rostrumlaw22.TokenFields'. -/
def tokenFieldsCard : Claim7 := { stood := { row := tokenFieldsRow, standIns := [], harness := (true, "22e5fea87fbe303a9fdc6248b72b91fe5f7654bf4efbb73cdba9eee0b99a73b3"), looks := true }, kinds := [], alts := [], laidByText := true, laidKinds := [.data, .data, .data], laidTests := true, laidLooks := .later }
def TokenFieldsCardSaid : Prop := Claim7.holds Tryd.pinned (.plain (OpenSpec.ofChange tokenFieldsSpec)) tokenFieldsCard

/-- THE TIED CARD OF 'rostrumlaw22.TokenChecks'. -/
def tokenChecksCard : Claim7 := { stood := { row := tokenChecksRow, standIns := [], harness := (true, "22e5fea87fbe303a9fdc6248b72b91fe5f7654bf4efbb73cdba9eee0b99a73b3"), looks := true }, kinds := [], alts := [], laidByText := true, laidKinds := [.data, .data, .data, .data, .sentinel, .sentinel, .pinned], laidTests := true, laidLooks := .later }
def TokenChecksCardSaid : Prop := Claim7.holds Tryd.pinned (.plain (OpenSpec.ofChange tokenChecksSpec)) tokenChecksCard

/-- THE TIED CARD OF 'rostrumlaw22.TokenTurned'. -/
def tokenTurnedCard : Claim7 := { stood := { row := tokenTurnedRow, standIns := [], harness := (true, "22e5fea87fbe303a9fdc6248b72b91fe5f7654bf4efbb73cdba9eee0b99a73b3"), looks := true }, kinds := [], alts := [], laidByText := true, laidKinds := [.data, .data, .data, .data, .sentinel, .sentinel, .pinned], laidTests := true, laidLooks := .later }
def TokenTurnedCardSaid : Prop := Claim7.holds Tryd.pinned (.plain (OpenSpec.ofChange tokenTurnedSpec)) tokenTurnedCard

/-- THE TIED CARD OF 'rostrumlaw22.TokenBack'. -/
def tokenBackCard : Claim7 := { stood := { row := tokenBackRow, standIns := [], harness := (true, "22e5fea87fbe303a9fdc6248b72b91fe5f7654bf4efbb73cdba9eee0b99a73b3"), looks := true }, kinds := [], alts := [], laidByText := true, laidKinds := [.data, .data, .data, .data, .sentinel, .sentinel, .pinned], laidTests := true, laidLooks := .later }
def TokenBackCardSaid : Prop := Claim7.holds Tryd.pinned (.plain (OpenSpec.ofChange tokenBackSpec)) tokenBackCard

/-- THE SECOND FORM's CARD OF 'rostrumlaw22.TokenMakes'. -/
def tokenMakesUptoCard : Claim7 := { stood := { row := tokenMakesUptoRow, standIns := [], harness := (true, "22e5fea87fbe303a9fdc6248b72b91fe5f7654bf4efbb73cdba9eee0b99a73b3"), looks := true }, kinds := [], alts := [], laidByText := true, laidKinds := [.data, .data, .data], laidTests := true, laidLooks := .later }
def TokenMakesUptoCardSaid : Prop := Claim7.holds Tryd.pinned (.plain (OpenSpec.upto tokenMakesSpec)) tokenMakesUptoCard

/-- THE SECOND FORM's CARD OF 'rostrumlaw22.TokenFields'. -/
def tokenFieldsUptoCard : Claim7 := { stood := { row := tokenFieldsUptoRow, standIns := [], harness := (true, "22e5fea87fbe303a9fdc6248b72b91fe5f7654bf4efbb73cdba9eee0b99a73b3"), looks := true }, kinds := [], alts := [], laidByText := true, laidKinds := [.data, .data, .data], laidTests := true, laidLooks := .later }
def TokenFieldsUptoCardSaid : Prop := Claim7.holds Tryd.pinned (.plain (OpenSpec.upto tokenFieldsSpec)) tokenFieldsUptoCard

/-- THE SECOND FORM's CARD OF 'rostrumlaw22.TokenChecks'. -/
def tokenChecksUptoCard : Claim7 := { stood := { row := tokenChecksUptoRow, standIns := [], harness := (true, "22e5fea87fbe303a9fdc6248b72b91fe5f7654bf4efbb73cdba9eee0b99a73b3"), looks := true }, kinds := [], alts := [], laidByText := true, laidKinds := [.data, .data, .data, .data, .sentinel, .sentinel, .pinned], laidTests := true, laidLooks := .later }
def TokenChecksUptoCardSaid : Prop := Claim7.holds Tryd.pinned (.plain (OpenSpec.upto tokenChecksSpec)) tokenChecksUptoCard

/-- THE SECOND FORM's CARD OF 'rostrumlaw22.TokenTurned'. -/
def tokenTurnedUptoCard : Claim7 := { stood := { row := tokenTurnedUptoRow, standIns := [], harness := (true, "22e5fea87fbe303a9fdc6248b72b91fe5f7654bf4efbb73cdba9eee0b99a73b3"), looks := true }, kinds := [], alts := [], laidByText := true, laidKinds := [.data, .data, .data, .data, .sentinel, .sentinel, .pinned], laidTests := true, laidLooks := .later }
def TokenTurnedUptoCardSaid : Prop := Claim7.holds Tryd.pinned (.plain (OpenSpec.upto tokenTurnedSpec)) tokenTurnedUptoCard

/-- THE SECOND FORM's CARD OF 'rostrumlaw22.TokenBack'. -/
def tokenBackUptoCard : Claim7 := { stood := { row := tokenBackUptoRow, standIns := [], harness := (true, "22e5fea87fbe303a9fdc6248b72b91fe5f7654bf4efbb73cdba9eee0b99a73b3"), looks := true }, kinds := [], alts := [], laidByText := true, laidKinds := [.data, .data, .data, .data, .sentinel, .sentinel, .pinned], laidTests := true, laidLooks := .later }
def TokenBackUptoCardSaid : Prop := Claim7.holds Tryd.pinned (.plain (OpenSpec.upto tokenBackSpec)) tokenBackUptoCard
end Rows
end Go.Proofs.YtakgdmcekhafoaaDoor
