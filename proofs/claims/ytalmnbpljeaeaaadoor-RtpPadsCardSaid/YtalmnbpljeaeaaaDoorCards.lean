/-
  DERIVED. GIVEN WITH THE SEED: THE CARDS: each row of YtalmnbpljeaeaaaDoorRows.lean that lists a variable, with what it lists TIED to the program's text (the seventh form; the later family's looks); each row that meets fmt, with fmt's text TOLD by the authors' own Lean function (tested against real Go, not proved from fmt's source: count such statements apart). THE CARD IS WHAT COUNTS. Prove the row's statement (the work); the ties are given (YtalmnbpljeaeaaaDoorTie.lean); close each card by the builder's one call (the guide's Derived/Test/ToyasCard.lean, 'card_holds'). Laid BY PROGRAM, IN A SANDBOX (cutbox-door.mjs). By AI agents, Wed Nov 11 2026. No macro, syntax, notation, axiom, sorry.
-/
import Derived.Test.YtalmnbpljeaeaaaDoorRows
import GoSem.ClaimSeven
namespace Go.Proofs.YtalmnbpljeaeaaaDoor
namespace Rows

/-- THE TIED CARD OF 'rostrumlaw12.RtpPads'. -/
def rtpPadsCard : Claim7 := { stood := { row := rtpPadsRow, standIns := [], harness := (true, "b65fcf0f910179c9d0b297f4d2f3a47ca0f510d1256ce0e46f5f6eccf9b6edcf"), looks := false }, kinds := [], alts := [], laidByText := true, laidKinds := [.data, .pinned], laidTests := true, laidLooks := .later }
def RtpPadsCardSaid : Prop := Claim7.holds Tryd.pinned (.plain (OpenSpec.ofChange rtpPadsSpec)) rtpPadsCard

/-- THE SECOND FORM's CARD OF 'rostrumlaw12.RtpPads'. -/
def rtpPadsUptoCard : Claim7 := { stood := { row := rtpPadsUptoRow, standIns := [], harness := (true, "b65fcf0f910179c9d0b297f4d2f3a47ca0f510d1256ce0e46f5f6eccf9b6edcf"), looks := false }, kinds := [], alts := [], laidByText := true, laidKinds := [.data, .pinned], laidTests := true, laidLooks := .later }
def RtpPadsUptoCardSaid : Prop := Claim7.holds Tryd.pinned (.plain (OpenSpec.upto rtpPadsSpec)) rtpPadsUptoCard
end Rows
end Go.Proofs.YtalmnbpljeaeaaaDoor
