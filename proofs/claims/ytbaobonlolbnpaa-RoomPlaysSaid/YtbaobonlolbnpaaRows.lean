/-
  No cell of these rows narrows 'for every input' (looked for: loops, veiled, ifaces, maps, wideKeys, modest, calm, conditions, laid).
  DERIVED. THE GIVEN ROWS OF THIS SEAT. 5 by the template 'for every input the law returns true; each argument reads behind the call as it read before'; 0 by the template 'total and deterministic' (their statements: YtbaobonlolbnpaaTotals.lean).
  GIVEN WITH THE SEED: the statements are not yours to turn. If you find one false, say at which input.
  Laid BY PROGRAM, IN A SANDBOX (cutbox-rows.mjs): the forced cells as the released guide's own fill.sh prints them over the translation 4bf8599ceb93d71a… (all of the seat's roots in one cut). By AI agents, Wed Nov 11 2026. No macro, syntax, notation, axiom, sorry.
-/
import Derived.Test.YtbaobonlolbnpaaChecked
import GoSem.Claim
import GoSem.ClaimJoined
import GoSem.ClaimMapViews
import Derived.JoinedTies
import Derived.KernelRfl
namespace Go.Proofs.Ytbaobonlolbnpaa
/- THE CELL 'sum', in the pinned program and in every row, IS THE sha256 OF THE DUMP (.gsa) THAT YtbaobonlolbnpaaProg.lean LOADS. Nothing in Lean hashes anything: it is a label: what it is worth is what the hold of that sum in a sandbox is worth. -/
noncomputable def Try.pinned : Pinned := { name := "ytbaobonlolbnpaa", sum := "4bf8599ceb93d71adf4a185618d7dae4979c7782f17f2d7c014a11e6424f1cbc", checked := Try.checked }
namespace Rows
def none {H : Type} : Left H := { results := [], args := [] }

/-- 'rostrumlaw23.RoomBounds': WHATEVER THE INPUT: true; the input reads as it did. -/
def roomBoundsSpec : ChangeSpec := { name := "roomBounds", fn := fun _ => fun
  | [d] => { results := [.lit (.bool true)], args := [d] }
  | _ => none }
def roomBoundsRow : OpenClaim := { program := "ytbaobonlolbnpaa", sum := "4bf8599ceb93d71adf4a185618d7dae4979c7782f17f2d7c014a11e6424f1cbc", func := "rostrum/rostrumlaw23.RoomBounds", spec := "roomBounds", unfollowed := true, recurses := true, apart := false }
def RoomBoundsSaid : Prop := roomBoundsRow.holds Try.pinned (OpenSpec.ofChange roomBoundsSpec)

/-- ITS FALSE NEIGHBOUR: 'it returns false'. Refute it at one input. -/
def roomBoundsWrong : ChangeSpec := { name := "roomBounds", fn := fun _ => fun
  | [d] => { results := [.lit (.bool false)], args := [d] }
  | _ => none }
def RoomBoundsWrongFalsely : Prop := roomBoundsRow.holds Try.pinned (OpenSpec.ofChange roomBoundsWrong)

/-- 'rostrumlaw23.RoomLeaves': WHATEVER THE INPUT: true; the input reads as it did. -/
def roomLeavesSpec : ChangeSpec := { name := "roomLeaves", fn := fun _ => fun
  | [d1, d2] => { results := [.lit (.bool true)], args := [d1, d2] }
  | _ => none }
def roomLeavesRow : OpenClaim := { program := "ytbaobonlolbnpaa", sum := "4bf8599ceb93d71adf4a185618d7dae4979c7782f17f2d7c014a11e6424f1cbc", func := "rostrum/rostrumlaw23.RoomLeaves", spec := "roomLeaves", unfollowed := true, recurses := true, apart := false }
def RoomLeavesSaid : Prop := roomLeavesRow.holds Try.pinned (OpenSpec.ofChange roomLeavesSpec)

/-- ITS FALSE NEIGHBOUR: 'it returns false'. Refute it at one input. -/
def roomLeavesWrong : ChangeSpec := { name := "roomLeaves", fn := fun _ => fun
  | [d1, d2] => { results := [.lit (.bool false)], args := [d1, d2] }
  | _ => none }
def RoomLeavesWrongFalsely : Prop := roomLeavesRow.holds Try.pinned (OpenSpec.ofChange roomLeavesWrong)

/-- 'rostrumlaw23.RoomRights': WHATEVER THE INPUT: true; the input reads as it did. -/
def roomRightsSpec : ChangeSpec := { name := "roomRights", fn := fun _ => fun
  | [d] => { results := [.lit (.bool true)], args := [d] }
  | _ => none }
def roomRightsRow : OpenClaim := { program := "ytbaobonlolbnpaa", sum := "4bf8599ceb93d71adf4a185618d7dae4979c7782f17f2d7c014a11e6424f1cbc", func := "rostrum/rostrumlaw23.RoomRights", spec := "roomRights", unfollowed := true, recurses := true, apart := false }
def RoomRightsSaid : Prop := roomRightsRow.holds Try.pinned (OpenSpec.ofChange roomRightsSpec)

/-- ITS FALSE NEIGHBOUR: 'it returns false'. Refute it at one input. -/
def roomRightsWrong : ChangeSpec := { name := "roomRights", fn := fun _ => fun
  | [d] => { results := [.lit (.bool false)], args := [d] }
  | _ => none }
def RoomRightsWrongFalsely : Prop := roomRightsRow.holds Try.pinned (OpenSpec.ofChange roomRightsWrong)

/-- 'rostrumlaw23.RoomPlays': WHATEVER THE INPUT: true; the input reads as it did. -/
def roomPlaysSpec : ChangeSpec := { name := "roomPlays", fn := fun _ => fun
  | [d1, d2, d3] => { results := [.lit (.bool true)], args := [d1, d2, d3] }
  | _ => none }
def roomPlaysRow : OpenClaim := { program := "ytbaobonlolbnpaa", sum := "4bf8599ceb93d71adf4a185618d7dae4979c7782f17f2d7c014a11e6424f1cbc", func := "rostrum/rostrumlaw23.RoomPlays", spec := "roomPlays", unfollowed := true, recurses := true, apart := false }
def RoomPlaysSaid : Prop := roomPlaysRow.holds Try.pinned (OpenSpec.ofChange roomPlaysSpec)

/-- ITS FALSE NEIGHBOUR: 'it returns false'. Refute it at one input. -/
def roomPlaysWrong : ChangeSpec := { name := "roomPlays", fn := fun _ => fun
  | [d1, d2, d3] => { results := [.lit (.bool false)], args := [d1, d2, d3] }
  | _ => none }
def RoomPlaysWrongFalsely : Prop := roomPlaysRow.holds Try.pinned (OpenSpec.ofChange roomPlaysWrong)

/-- 'rostrumlaw23.RoomNil': WHATEVER THE INPUT: true; the input reads as it did. -/
def roomNilSpec : ChangeSpec := { name := "roomNil", fn := fun _ => fun
  | [d] => { results := [.lit (.bool true)], args := [d] }
  | _ => none }
def roomNilRow : OpenClaim := { program := "ytbaobonlolbnpaa", sum := "4bf8599ceb93d71adf4a185618d7dae4979c7782f17f2d7c014a11e6424f1cbc", func := "rostrum/rostrumlaw23.RoomNil", spec := "roomNil", unfollowed := true, recurses := true, apart := false }
def RoomNilSaid : Prop := roomNilRow.holds Try.pinned (OpenSpec.ofChange roomNilSpec)

/-- ITS FALSE NEIGHBOUR: 'it returns false'. Refute it at one input. -/
def roomNilWrong : ChangeSpec := { name := "roomNil", fn := fun _ => fun
  | [d] => { results := [.lit (.bool false)], args := [d] }
  | _ => none }
def RoomNilWrongFalsely : Prop := roomNilRow.holds Try.pinned (OpenSpec.ofChange roomNilWrong)

/- THE SECOND FORM. 'bulk': how many values and letters a reading holds, each counted each time it is reached (what is shared counts as often as it is met; a slice's spare places count too). A statement '..UptoSaid' is the law's where the arguments, and the package variables that the reading takes, are together of bulk at most 1048576: NARROWER than '..Said'. Prove '..Said' where nothing that the law and all that it calls make is longer than what came in: it says more and counts as full. Else prove '..UptoSaid'. A law counts once. -/
mutual
def uptoBulk {H : Type} : DataW H → Nat
  | .lit (.string bytes) => bytes.length + 1
  | .lit _ => 1
  | .nil => 1
  | .ptr d => uptoBulk d + 1
  | .slice elems spare => uptoBulkAll elems + uptoBulkAll spare + 1
  | .agg parts => uptoBulkAll parts + 1
  | .iface _ d => uptoBulk d + 1
  | .map entries => uptoBulkEntries entries + 1
  | .held _ => 1
def uptoBulkAll {H : Type} : List (DataW H) → Nat
  | [] => 0
  | d :: r => uptoBulk d + uptoBulkAll r
def uptoBulkEntries {H : Type} : List (Lit × DataW H) → Nat
  | [] => 0
  | x :: r => uptoBulkEntry x + uptoBulkEntries r
def uptoBulkEntry {H : Type} : Lit × DataW H → Nat
  | (.string bytes, d) => bytes.length + uptoBulk d + 1
  | (_, d) => uptoBulk d + 1
 end
def uptoSmall : (H : Type) → List (DataW H) → Bool := fun _ ds => decide (uptoBulkAll ds ≤ 1048576)
def OpenSpec.upto (s : _root_.Go.ChangeSpec) : _root_.Go.OpenSpec := { _root_.Go.OpenSpec.ofChange s with cond := some uptoSmall }

/-- 'rostrumlaw23.RoomBounds', WHERE WHAT IT READS IS OF BULK AT MOST 1048576: true; the input reads as it did. -/
def roomBoundsUptoRow : OpenClaim := { program := "ytbaobonlolbnpaa", sum := "4bf8599ceb93d71adf4a185618d7dae4979c7782f17f2d7c014a11e6424f1cbc", func := "rostrum/rostrumlaw23.RoomBounds", spec := "roomBounds", unfollowed := true, recurses := true, apart := false, narrowed := true }
def RoomBoundsUptoSaid : Prop := roomBoundsUptoRow.holds Try.pinned (OpenSpec.upto roomBoundsSpec)

/-- 'rostrumlaw23.RoomLeaves', WHERE WHAT IT READS IS OF BULK AT MOST 1048576: true; the input reads as it did. -/
def roomLeavesUptoRow : OpenClaim := { program := "ytbaobonlolbnpaa", sum := "4bf8599ceb93d71adf4a185618d7dae4979c7782f17f2d7c014a11e6424f1cbc", func := "rostrum/rostrumlaw23.RoomLeaves", spec := "roomLeaves", unfollowed := true, recurses := true, apart := false, narrowed := true }
def RoomLeavesUptoSaid : Prop := roomLeavesUptoRow.holds Try.pinned (OpenSpec.upto roomLeavesSpec)

/-- 'rostrumlaw23.RoomRights', WHERE WHAT IT READS IS OF BULK AT MOST 1048576: true; the input reads as it did. -/
def roomRightsUptoRow : OpenClaim := { program := "ytbaobonlolbnpaa", sum := "4bf8599ceb93d71adf4a185618d7dae4979c7782f17f2d7c014a11e6424f1cbc", func := "rostrum/rostrumlaw23.RoomRights", spec := "roomRights", unfollowed := true, recurses := true, apart := false, narrowed := true }
def RoomRightsUptoSaid : Prop := roomRightsUptoRow.holds Try.pinned (OpenSpec.upto roomRightsSpec)

/-- 'rostrumlaw23.RoomPlays', WHERE WHAT IT READS IS OF BULK AT MOST 1048576: true; the input reads as it did. -/
def roomPlaysUptoRow : OpenClaim := { program := "ytbaobonlolbnpaa", sum := "4bf8599ceb93d71adf4a185618d7dae4979c7782f17f2d7c014a11e6424f1cbc", func := "rostrum/rostrumlaw23.RoomPlays", spec := "roomPlays", unfollowed := true, recurses := true, apart := false, narrowed := true }
def RoomPlaysUptoSaid : Prop := roomPlaysUptoRow.holds Try.pinned (OpenSpec.upto roomPlaysSpec)

/-- 'rostrumlaw23.RoomNil', WHERE WHAT IT READS IS OF BULK AT MOST 1048576: true; the input reads as it did. -/
def roomNilUptoRow : OpenClaim := { program := "ytbaobonlolbnpaa", sum := "4bf8599ceb93d71adf4a185618d7dae4979c7782f17f2d7c014a11e6424f1cbc", func := "rostrum/rostrumlaw23.RoomNil", spec := "roomNil", unfollowed := true, recurses := true, apart := false, narrowed := true }
def RoomNilUptoSaid : Prop := roomNilUptoRow.holds Try.pinned (OpenSpec.upto roomNilSpec)

end Rows
end Go.Proofs.Ytbaobonlolbnpaa
