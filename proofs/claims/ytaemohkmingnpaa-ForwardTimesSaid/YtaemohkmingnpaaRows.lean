/-
  No cell of these rows narrows 'for every input' (looked for: loops, veiled, ifaces, maps, wideKeys, modest, calm, conditions, laid).
  DERIVED. THE GIVEN ROWS OF THIS SEAT. 5 by the template 'for every input the law returns true; each argument reads behind the call as it read before'; 0 by the template 'total and deterministic' (their statements: YtaemohkmingnpaaTotals.lean).
  GIVEN WITH THE SEED: the statements are not yours to turn. If you find one false, say at which input.
  Laid BY PROGRAM, IN A SANDBOX (cutbox-rows.mjs): the forced cells as the released guide's own fill.sh prints them over the translation 78c7406bcd284a82… (all of the seat's roots in one cut). By AI agents, Wed Nov 11 2026. No macro, syntax, notation, axiom, sorry.
-/
import Derived.Test.YtaemohkmingnpaaChecked
import GoSem.Claim
import GoSem.ClaimJoined
import GoSem.ClaimMapViews
import Derived.JoinedTies
import Derived.KernelRfl
namespace Go.Proofs.Ytaemohkmingnpaa
/- THE CELL 'sum', in the pinned program and in every row, IS THE sha256 OF THE DUMP (.gsa) THAT YtaemohkmingnpaaProg.lean LOADS. Nothing in Lean hashes anything: it is a label: what it is worth is what the hold of that sum in a sandbox is worth. -/
noncomputable def Try.pinned : Pinned := { name := "ytaemohkmingnpaa", sum := "78c7406bcd284a82a1e3135242ef09f22a2e400288b6684ad7347103252ccefc", checked := Try.checked }
namespace Rows
def none {H : Type} : Left H := { results := [], args := [] }

/-- 'rostrumlaw17.ForwardWhole': WHATEVER THE INPUT: true; the input reads as it did. -/
def forwardWholeSpec : ChangeSpec := { name := "forwardWhole", fn := fun _ => fun
  | [d1, d2, d3] => { results := [.lit (.bool true)], args := [d1, d2, d3] }
  | _ => none }
def forwardWholeRow : OpenClaim := { program := "ytaemohkmingnpaa", sum := "78c7406bcd284a82a1e3135242ef09f22a2e400288b6684ad7347103252ccefc", func := "rostrum/rostrumlaw17.ForwardWhole", spec := "forwardWhole", unfollowed := true, recurses := true, apart := false }
def ForwardWholeSaid : Prop := forwardWholeRow.holds Try.pinned (OpenSpec.ofChange forwardWholeSpec)

/-- ITS FALSE NEIGHBOUR: 'it returns false'. Refute it at one input. -/
def forwardWholeWrong : ChangeSpec := { name := "forwardWhole", fn := fun _ => fun
  | [d1, d2, d3] => { results := [.lit (.bool false)], args := [d1, d2, d3] }
  | _ => none }
def ForwardWholeWrongFalsely : Prop := forwardWholeRow.holds Try.pinned (OpenSpec.ofChange forwardWholeWrong)

/-- 'rostrumlaw17.ForwardRises': WHATEVER THE INPUT: true; the input reads as it did. -/
def forwardRisesSpec : ChangeSpec := { name := "forwardRises", fn := fun _ => fun
  | [d1, d2] => { results := [.lit (.bool true)], args := [d1, d2] }
  | _ => none }
def forwardRisesRow : OpenClaim := { program := "ytaemohkmingnpaa", sum := "78c7406bcd284a82a1e3135242ef09f22a2e400288b6684ad7347103252ccefc", func := "rostrum/rostrumlaw17.ForwardRises", spec := "forwardRises", unfollowed := true, recurses := true, apart := false }
def ForwardRisesSaid : Prop := forwardRisesRow.holds Try.pinned (OpenSpec.ofChange forwardRisesSpec)

/-- ITS FALSE NEIGHBOUR: 'it returns false'. Refute it at one input. -/
def forwardRisesWrong : ChangeSpec := { name := "forwardRises", fn := fun _ => fun
  | [d1, d2] => { results := [.lit (.bool false)], args := [d1, d2] }
  | _ => none }
def ForwardRisesWrongFalsely : Prop := forwardRisesRow.holds Try.pinned (OpenSpec.ofChange forwardRisesWrong)

/-- 'rostrumlaw17.ForwardTimes': WHATEVER THE INPUT: true; the input reads as it did. -/
def forwardTimesSpec : ChangeSpec := { name := "forwardTimes", fn := fun _ => fun
  | [d1, d2] => { results := [.lit (.bool true)], args := [d1, d2] }
  | _ => none }
def forwardTimesRow : OpenClaim := { program := "ytaemohkmingnpaa", sum := "78c7406bcd284a82a1e3135242ef09f22a2e400288b6684ad7347103252ccefc", func := "rostrum/rostrumlaw17.ForwardTimes", spec := "forwardTimes", unfollowed := true, recurses := true, apart := false }
def ForwardTimesSaid : Prop := forwardTimesRow.holds Try.pinned (OpenSpec.ofChange forwardTimesSpec)

/-- ITS FALSE NEIGHBOUR: 'it returns false'. Refute it at one input. -/
def forwardTimesWrong : ChangeSpec := { name := "forwardTimes", fn := fun _ => fun
  | [d1, d2] => { results := [.lit (.bool false)], args := [d1, d2] }
  | _ => none }
def ForwardTimesWrongFalsely : Prop := forwardTimesRow.holds Try.pinned (OpenSpec.ofChange forwardTimesWrong)

/-- 'rostrumlaw17.ForwardFresh': WHATEVER THE INPUT: true; the input reads as it did. -/
def forwardFreshSpec : ChangeSpec := { name := "forwardFresh", fn := fun _ => fun
  | [d1, d2] => { results := [.lit (.bool true)], args := [d1, d2] }
  | _ => none }
def forwardFreshRow : OpenClaim := { program := "ytaemohkmingnpaa", sum := "78c7406bcd284a82a1e3135242ef09f22a2e400288b6684ad7347103252ccefc", func := "rostrum/rostrumlaw17.ForwardFresh", spec := "forwardFresh", unfollowed := true, recurses := true, apart := false }
def ForwardFreshSaid : Prop := forwardFreshRow.holds Try.pinned (OpenSpec.ofChange forwardFreshSpec)

/-- ITS FALSE NEIGHBOUR: 'it returns false'. Refute it at one input. -/
def forwardFreshWrong : ChangeSpec := { name := "forwardFresh", fn := fun _ => fun
  | [d1, d2] => { results := [.lit (.bool false)], args := [d1, d2] }
  | _ => none }
def ForwardFreshWrongFalsely : Prop := forwardFreshRow.holds Try.pinned (OpenSpec.ofChange forwardFreshWrong)

/-- 'rostrumlaw17.ForwardKeeps': WHATEVER THE INPUT: true; the input reads as it did. -/
def forwardKeepsSpec : ChangeSpec := { name := "forwardKeeps", fn := fun _ => fun
  | [d1, d2] => { results := [.lit (.bool true)], args := [d1, d2] }
  | _ => none }
def forwardKeepsRow : OpenClaim := { program := "ytaemohkmingnpaa", sum := "78c7406bcd284a82a1e3135242ef09f22a2e400288b6684ad7347103252ccefc", func := "rostrum/rostrumlaw17.ForwardKeeps", spec := "forwardKeeps", unfollowed := true, recurses := true, apart := false }
def ForwardKeepsSaid : Prop := forwardKeepsRow.holds Try.pinned (OpenSpec.ofChange forwardKeepsSpec)

/-- ITS FALSE NEIGHBOUR: 'it returns false'. Refute it at one input. -/
def forwardKeepsWrong : ChangeSpec := { name := "forwardKeeps", fn := fun _ => fun
  | [d1, d2] => { results := [.lit (.bool false)], args := [d1, d2] }
  | _ => none }
def ForwardKeepsWrongFalsely : Prop := forwardKeepsRow.holds Try.pinned (OpenSpec.ofChange forwardKeepsWrong)

/- THE SECOND FORM. 'bulk': how many values and letters a reading holds, each counted each time it is reached (what is shared counts as often as it is met; a slice's spare places count too). A statement '..UptoSaid' is the law's where the arguments, and the package variables that the reading takes, are together of bulk at most 1048576: NARROWER than '..Said'. Prove '..Said' where nothing that the law and all that it calls make is longer than what came in: it says more and counts as full. Else prove '..UptoSaid'. A law counts once. -/
mutual
def uptoBulk {H : Type} : DataW H → Nat
  | .lit (.string bytes) => bytes.length + 1
  | .lit _ => 1
  | .nil => 1
  | .ptr d => uptoBulk d + 1
  | .slice elems spare => uptoBulkAll elems + uptoBulkAll spare + 1
  | .agg parts => uptoBulkAll parts + 1
  | .iface _ d => uptoBulk d + 1
  | .map entries => uptoBulkEntries entries + 1
  | .held _ => 1
def uptoBulkAll {H : Type} : List (DataW H) → Nat
  | [] => 0
  | d :: r => uptoBulk d + uptoBulkAll r
def uptoBulkEntries {H : Type} : List (Lit × DataW H) → Nat
  | [] => 0
  | x :: r => uptoBulkEntry x + uptoBulkEntries r
def uptoBulkEntry {H : Type} : Lit × DataW H → Nat
  | (.string bytes, d) => bytes.length + uptoBulk d + 1
  | (_, d) => uptoBulk d + 1
 end
def uptoSmall : (H : Type) → List (DataW H) → Bool := fun _ ds => decide (uptoBulkAll ds ≤ 1048576)
def OpenSpec.upto (s : _root_.Go.ChangeSpec) : _root_.Go.OpenSpec := { _root_.Go.OpenSpec.ofChange s with cond := some uptoSmall }

/-- 'rostrumlaw17.ForwardWhole', WHERE WHAT IT READS IS OF BULK AT MOST 1048576: true; the input reads as it did. -/
def forwardWholeUptoRow : OpenClaim := { program := "ytaemohkmingnpaa", sum := "78c7406bcd284a82a1e3135242ef09f22a2e400288b6684ad7347103252ccefc", func := "rostrum/rostrumlaw17.ForwardWhole", spec := "forwardWhole", unfollowed := true, recurses := true, apart := false, narrowed := true }
def ForwardWholeUptoSaid : Prop := forwardWholeUptoRow.holds Try.pinned (OpenSpec.upto forwardWholeSpec)

/-- 'rostrumlaw17.ForwardRises', WHERE WHAT IT READS IS OF BULK AT MOST 1048576: true; the input reads as it did. -/
def forwardRisesUptoRow : OpenClaim := { program := "ytaemohkmingnpaa", sum := "78c7406bcd284a82a1e3135242ef09f22a2e400288b6684ad7347103252ccefc", func := "rostrum/rostrumlaw17.ForwardRises", spec := "forwardRises", unfollowed := true, recurses := true, apart := false, narrowed := true }
def ForwardRisesUptoSaid : Prop := forwardRisesUptoRow.holds Try.pinned (OpenSpec.upto forwardRisesSpec)

/-- 'rostrumlaw17.ForwardTimes', WHERE WHAT IT READS IS OF BULK AT MOST 1048576: true; the input reads as it did. -/
def forwardTimesUptoRow : OpenClaim := { program := "ytaemohkmingnpaa", sum := "78c7406bcd284a82a1e3135242ef09f22a2e400288b6684ad7347103252ccefc", func := "rostrum/rostrumlaw17.ForwardTimes", spec := "forwardTimes", unfollowed := true, recurses := true, apart := false, narrowed := true }
def ForwardTimesUptoSaid : Prop := forwardTimesUptoRow.holds Try.pinned (OpenSpec.upto forwardTimesSpec)

/-- 'rostrumlaw17.ForwardFresh', WHERE WHAT IT READS IS OF BULK AT MOST 1048576: true; the input reads as it did. -/
def forwardFreshUptoRow : OpenClaim := { program := "ytaemohkmingnpaa", sum := "78c7406bcd284a82a1e3135242ef09f22a2e400288b6684ad7347103252ccefc", func := "rostrum/rostrumlaw17.ForwardFresh", spec := "forwardFresh", unfollowed := true, recurses := true, apart := false, narrowed := true }
def ForwardFreshUptoSaid : Prop := forwardFreshUptoRow.holds Try.pinned (OpenSpec.upto forwardFreshSpec)

/-- 'rostrumlaw17.ForwardKeeps', WHERE WHAT IT READS IS OF BULK AT MOST 1048576: true; the input reads as it did. -/
def forwardKeepsUptoRow : OpenClaim := { program := "ytaemohkmingnpaa", sum := "78c7406bcd284a82a1e3135242ef09f22a2e400288b6684ad7347103252ccefc", func := "rostrum/rostrumlaw17.ForwardKeeps", spec := "forwardKeeps", unfollowed := true, recurses := true, apart := false, narrowed := true }
def ForwardKeepsUptoSaid : Prop := forwardKeepsUptoRow.holds Try.pinned (OpenSpec.upto forwardKeepsSpec)

end Rows
end Go.Proofs.Ytaemohkmingnpaa
