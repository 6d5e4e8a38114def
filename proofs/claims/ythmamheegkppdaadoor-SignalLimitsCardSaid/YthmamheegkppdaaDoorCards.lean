/-
  DERIVED. GIVEN WITH THE SEED: THE CARDS: each row of YthmamheegkppdaaDoorRows.lean that lists a variable, with what it lists TIED to the program's text (the seventh form; the later family's looks); each row that meets fmt, with fmt's text TOLD by the authors' own Lean function (tested against real Go, not proved from fmt's source: count such statements apart). THE CARD IS WHAT COUNTS. Prove the row's statement (the work); the ties are given (YthmamheegkppdaaDoorTie.lean); close each card by the builder's one call (the guide's Derived/Test/ToyasCard.lean, 'card_holds'). Laid BY PROGRAM, IN A SANDBOX (cutbox-door.mjs). By AI agents, Wed Nov 11 2026. No macro, syntax, notation, axiom, sorry.
-/
import Derived.Test.YthmamheegkppdaaDoorRows
import GoSem.ClaimSeven
namespace Go.Proofs.YthmamheegkppdaaDoor
namespace Rows

/-- THE TIED CARD OF 'rostrumlaw24.SignalPrints'. -/
def signalPrintsCard : Claim7 := { stood := { row := signalPrintsRow, standIns := [], harness := (true, "f08d1bd465f777acba3d7e413aaec5a8269373064107fe0cb2310a5ae4fcb7e2"), looks := true }, kinds := [], alts := [], laidByText := true, laidKinds := [.data, .data, .data, .data, .pinned], laidTests := true, laidLooks := .later }
def SignalPrintsCardSaid : Prop := Claim7.holds Tryd.pinned (.plain (OpenSpec.ofChange signalPrintsSpec)) signalPrintsCard

/-- THE TIED CARD OF 'rostrumlaw24.SignalParses'. -/
def signalParsesCard : Claim7 := { stood := { row := signalParsesRow, standIns := [], harness := (true, "f08d1bd465f777acba3d7e413aaec5a8269373064107fe0cb2310a5ae4fcb7e2"), looks := true }, kinds := [], alts := [], laidByText := true, laidKinds := [.data, .data, .data, .data, .pinned], laidTests := true, laidLooks := .later }
def SignalParsesCardSaid : Prop := Claim7.holds Tryd.pinned (.plain (OpenSpec.ofChange signalParsesSpec)) signalParsesCard

/-- THE TIED CARD OF 'rostrumlaw24.SignalBack'. -/
def signalBackCard : Claim7 := { stood := { row := signalBackRow, standIns := [], harness := (true, "f08d1bd465f777acba3d7e413aaec5a8269373064107fe0cb2310a5ae4fcb7e2"), looks := true }, kinds := [], alts := [], laidByText := true, laidKinds := [.data, .data, .data, .data, .pinned], laidTests := true, laidLooks := .later }
def SignalBackCardSaid : Prop := Claim7.holds Tryd.pinned (.plain (OpenSpec.ofChange signalBackSpec)) signalBackCard

/-- THE TIED CARD OF 'rostrumlaw24.SignalLimits'. -/
def signalLimitsCard : Claim7 := { stood := { row := signalLimitsRow, standIns := [], harness := (true, "f08d1bd465f777acba3d7e413aaec5a8269373064107fe0cb2310a5ae4fcb7e2"), looks := true }, kinds := [], alts := [], laidByText := true, laidKinds := [.data, .data, .data, .data, .pinned], laidTests := true, laidLooks := .later }
def SignalLimitsCardSaid : Prop := Claim7.holds Tryd.pinned (.plain (OpenSpec.ofChange signalLimitsSpec)) signalLimitsCard

/-- THE TIED CARD OF 'rostrumlaw24.SignalNumbers'. -/
def signalNumbersCard : Claim7 := { stood := { row := signalNumbersRow, standIns := [], harness := (true, "f08d1bd465f777acba3d7e413aaec5a8269373064107fe0cb2310a5ae4fcb7e2"), looks := true }, kinds := [], alts := [], laidByText := true, laidKinds := [.data, .data, .data, .data, .sentinel, .sentinel, .pinned], laidTests := true, laidLooks := .later }
def SignalNumbersCardSaid : Prop := Claim7.holds Tryd.pinned (.plain (OpenSpec.ofChange signalNumbersSpec)) signalNumbersCard

/-- THE SECOND FORM's CARD OF 'rostrumlaw24.SignalPrints'. -/
def signalPrintsUptoCard : Claim7 := { stood := { row := signalPrintsUptoRow, standIns := [], harness := (true, "f08d1bd465f777acba3d7e413aaec5a8269373064107fe0cb2310a5ae4fcb7e2"), looks := true }, kinds := [], alts := [], laidByText := true, laidKinds := [.data, .data, .data, .data, .pinned], laidTests := true, laidLooks := .later }
def SignalPrintsUptoCardSaid : Prop := Claim7.holds Tryd.pinned (.plain (OpenSpec.upto signalPrintsSpec)) signalPrintsUptoCard

/-- THE SECOND FORM's CARD OF 'rostrumlaw24.SignalParses'. -/
def signalParsesUptoCard : Claim7 := { stood := { row := signalParsesUptoRow, standIns := [], harness := (true, "f08d1bd465f777acba3d7e413aaec5a8269373064107fe0cb2310a5ae4fcb7e2"), looks := true }, kinds := [], alts := [], laidByText := true, laidKinds := [.data, .data, .data, .data, .pinned], laidTests := true, laidLooks := .later }
def SignalParsesUptoCardSaid : Prop := Claim7.holds Tryd.pinned (.plain (OpenSpec.upto signalParsesSpec)) signalParsesUptoCard

/-- THE SECOND FORM's CARD OF 'rostrumlaw24.SignalBack'. -/
def signalBackUptoCard : Claim7 := { stood := { row := signalBackUptoRow, standIns := [], harness := (true, "f08d1bd465f777acba3d7e413aaec5a8269373064107fe0cb2310a5ae4fcb7e2"), looks := true }, kinds := [], alts := [], laidByText := true, laidKinds := [.data, .data, .data, .data, .pinned], laidTests := true, laidLooks := .later }
def SignalBackUptoCardSaid : Prop := Claim7.holds Tryd.pinned (.plain (OpenSpec.upto signalBackSpec)) signalBackUptoCard

/-- THE SECOND FORM's CARD OF 'rostrumlaw24.SignalLimits'. -/
def signalLimitsUptoCard : Claim7 := { stood := { row := signalLimitsUptoRow, standIns := [], harness := (true, "f08d1bd465f777acba3d7e413aaec5a8269373064107fe0cb2310a5ae4fcb7e2"), looks := true }, kinds := [], alts := [], laidByText := true, laidKinds := [.data, .data, .data, .data, .pinned], laidTests := true, laidLooks := .later }
def SignalLimitsUptoCardSaid : Prop := Claim7.holds Tryd.pinned (.plain (OpenSpec.upto signalLimitsSpec)) signalLimitsUptoCard

/-- THE SECOND FORM's CARD OF 'rostrumlaw24.SignalNumbers'. -/
def signalNumbersUptoCard : Claim7 := { stood := { row := signalNumbersUptoRow, standIns := [], harness := (true, "f08d1bd465f777acba3d7e413aaec5a8269373064107fe0cb2310a5ae4fcb7e2"), looks := true }, kinds := [], alts := [], laidByText := true, laidKinds := [.data, .data, .data, .data, .sentinel, .sentinel, .pinned], laidTests := true, laidLooks := .later }
def SignalNumbersUptoCardSaid : Prop := Claim7.holds Tryd.pinned (.plain (OpenSpec.upto signalNumbersSpec)) signalNumbersUptoCard
end Rows
end Go.Proofs.YthmamheegkppdaaDoor
