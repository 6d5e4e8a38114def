/-
  No cell of these rows narrows 'for every input' (looked for: loops, veiled, ifaces, maps, wideKeys, modest, calm, conditions, laid).
  DERIVED. THE GIVEN ROWS OF THIS SEAT. 6 by the template 'for every input the law returns true; each argument reads behind the call as it read before'; 0 by the template 'total and deterministic' (their statements: YtddopbbmgpnjjaaTotals.lean).
  GIVEN WITH THE SEED: the statements are not yours to turn. If you find one false, say at which input.
  Laid BY PROGRAM, IN A SANDBOX (cutbox-rows.mjs): the forced cells as the released guide's own fill.sh prints them over the translation bff451be8ceb90d6… (all of the seat's roots in one cut). By AI agents, Wed Nov 11 2026. No macro, syntax, notation, axiom, sorry.
-/
import Derived.Test.YtddopbbmgpnjjaaChecked
import GoSem.Claim
import GoSem.ClaimJoined
import GoSem.ClaimMapViews
import Derived.JoinedTies
import Derived.KernelRfl
namespace Go.Proofs.Ytddopbbmgpnjjaa
/- THE CELL 'sum', in the pinned program and in every row, IS THE sha256 OF THE DUMP (.gsa) THAT YtddopbbmgpnjjaaProg.lean LOADS. Nothing in Lean hashes anything: it is a label: what it is worth is what the hold of that sum in a sandbox is worth. -/
noncomputable def Try.pinned : Pinned := { name := "ytddopbbmgpnjjaa", sum := "bff451be8ceb90d6dddbae29d5ce20e417f4f861de2b116d3d2294c8e49ff38d", checked := Try.checked }
namespace Rows
def none {H : Type} : Left H := { results := [], args := [] }

/-- 'rostrumlaw13.RtcpBuilds': WHATEVER THE INPUT: true; the input reads as it did. -/
def rtcpBuildsSpec : ChangeSpec := { name := "rtcpBuilds", fn := fun _ => fun
  | [d] => { results := [.lit (.bool true)], args := [d] }
  | _ => none }
def rtcpBuildsRow : OpenClaim := { program := "ytddopbbmgpnjjaa", sum := "bff451be8ceb90d6dddbae29d5ce20e417f4f861de2b116d3d2294c8e49ff38d", func := "rostrum/rostrumlaw13.RtcpBuilds", spec := "rtcpBuilds", unfollowed := true, recurses := true, apart := false }
def RtcpBuildsSaid : Prop := rtcpBuildsRow.holds Try.pinned (OpenSpec.ofChange rtcpBuildsSpec)

/-- ITS FALSE NEIGHBOUR: 'it returns false'. Refute it at one input. -/
def rtcpBuildsWrong : ChangeSpec := { name := "rtcpBuilds", fn := fun _ => fun
  | [d] => { results := [.lit (.bool false)], args := [d] }
  | _ => none }
def RtcpBuildsWrongFalsely : Prop := rtcpBuildsRow.holds Try.pinned (OpenSpec.ofChange rtcpBuildsWrong)

/-- 'rostrumlaw13.RtcpParses': WHATEVER THE INPUT: true; the input reads as it did. -/
def rtcpParsesSpec : ChangeSpec := { name := "rtcpParses", fn := fun _ => fun
  | [d] => { results := [.lit (.bool true)], args := [d] }
  | _ => none }
def rtcpParsesRow : OpenClaim := { program := "ytddopbbmgpnjjaa", sum := "bff451be8ceb90d6dddbae29d5ce20e417f4f861de2b116d3d2294c8e49ff38d", func := "rostrum/rostrumlaw13.RtcpParses", spec := "rtcpParses", unfollowed := true, recurses := true, apart := false }
def RtcpParsesSaid : Prop := rtcpParsesRow.holds Try.pinned (OpenSpec.ofChange rtcpParsesSpec)

/-- ITS FALSE NEIGHBOUR: 'it returns false'. Refute it at one input. -/
def rtcpParsesWrong : ChangeSpec := { name := "rtcpParses", fn := fun _ => fun
  | [d] => { results := [.lit (.bool false)], args := [d] }
  | _ => none }
def RtcpParsesWrongFalsely : Prop := rtcpParsesRow.holds Try.pinned (OpenSpec.ofChange rtcpParsesWrong)

/-- 'rostrumlaw13.RtcpBack': WHATEVER THE INPUT: true; the input reads as it did. -/
def rtcpBackSpec : ChangeSpec := { name := "rtcpBack", fn := fun _ => fun
  | [d1, d2] => { results := [.lit (.bool true)], args := [d1, d2] }
  | _ => none }
def rtcpBackRow : OpenClaim := { program := "ytddopbbmgpnjjaa", sum := "bff451be8ceb90d6dddbae29d5ce20e417f4f861de2b116d3d2294c8e49ff38d", func := "rostrum/rostrumlaw13.RtcpBack", spec := "rtcpBack", unfollowed := true, recurses := true, apart := false }
def RtcpBackSaid : Prop := rtcpBackRow.holds Try.pinned (OpenSpec.ofChange rtcpBackSpec)

/-- ITS FALSE NEIGHBOUR: 'it returns false'. Refute it at one input. -/
def rtcpBackWrong : ChangeSpec := { name := "rtcpBack", fn := fun _ => fun
  | [d1, d2] => { results := [.lit (.bool false)], args := [d1, d2] }
  | _ => none }
def RtcpBackWrongFalsely : Prop := rtcpBackRow.holds Try.pinned (OpenSpec.ofChange rtcpBackWrong)

/-- 'rostrumlaw13.RtcpTurned': WHATEVER THE INPUT: true; the input reads as it did. -/
def rtcpTurnedSpec : ChangeSpec := { name := "rtcpTurned", fn := fun _ => fun
  | [d1, d2, d3] => { results := [.lit (.bool true)], args := [d1, d2, d3] }
  | _ => none }
def rtcpTurnedRow : OpenClaim := { program := "ytddopbbmgpnjjaa", sum := "bff451be8ceb90d6dddbae29d5ce20e417f4f861de2b116d3d2294c8e49ff38d", func := "rostrum/rostrumlaw13.RtcpTurned", spec := "rtcpTurned", unfollowed := true, recurses := true, apart := false }
def RtcpTurnedSaid : Prop := rtcpTurnedRow.holds Try.pinned (OpenSpec.ofChange rtcpTurnedSpec)

/-- ITS FALSE NEIGHBOUR: 'it returns false'. Refute it at one input. -/
def rtcpTurnedWrong : ChangeSpec := { name := "rtcpTurned", fn := fun _ => fun
  | [d1, d2, d3] => { results := [.lit (.bool false)], args := [d1, d2, d3] }
  | _ => none }
def RtcpTurnedWrongFalsely : Prop := rtcpTurnedRow.holds Try.pinned (OpenSpec.ofChange rtcpTurnedWrong)

/-- 'rostrumlaw13.RtcpMissing': WHATEVER THE INPUT: true; the input reads as it did. -/
def rtcpMissingSpec : ChangeSpec := { name := "rtcpMissing", fn := fun _ => fun
  | [d1, d2] => { results := [.lit (.bool true)], args := [d1, d2] }
  | _ => none }
def rtcpMissingRow : OpenClaim := { program := "ytddopbbmgpnjjaa", sum := "bff451be8ceb90d6dddbae29d5ce20e417f4f861de2b116d3d2294c8e49ff38d", func := "rostrum/rostrumlaw13.RtcpMissing", spec := "rtcpMissing", unfollowed := true, recurses := true, apart := false }
def RtcpMissingSaid : Prop := rtcpMissingRow.holds Try.pinned (OpenSpec.ofChange rtcpMissingSpec)

/-- ITS FALSE NEIGHBOUR: 'it returns false'. Refute it at one input. -/
def rtcpMissingWrong : ChangeSpec := { name := "rtcpMissing", fn := fun _ => fun
  | [d1, d2] => { results := [.lit (.bool false)], args := [d1, d2] }
  | _ => none }
def RtcpMissingWrongFalsely : Prop := rtcpMissingRow.holds Try.pinned (OpenSpec.ofChange rtcpMissingWrong)

/-- 'rostrumlaw13.RtcpKeeps': WHATEVER THE INPUT: true; the input reads as it did. -/
def rtcpKeepsSpec : ChangeSpec := { name := "rtcpKeeps", fn := fun _ => fun
  | [d] => { results := [.lit (.bool true)], args := [d] }
  | _ => none }
def rtcpKeepsRow : OpenClaim := { program := "ytddopbbmgpnjjaa", sum := "bff451be8ceb90d6dddbae29d5ce20e417f4f861de2b116d3d2294c8e49ff38d", func := "rostrum/rostrumlaw13.RtcpKeeps", spec := "rtcpKeeps", unfollowed := true, recurses := true, apart := false }
def RtcpKeepsSaid : Prop := rtcpKeepsRow.holds Try.pinned (OpenSpec.ofChange rtcpKeepsSpec)

/-- ITS FALSE NEIGHBOUR: 'it returns false'. Refute it at one input. -/
def rtcpKeepsWrong : ChangeSpec := { name := "rtcpKeeps", fn := fun _ => fun
  | [d] => { results := [.lit (.bool false)], args := [d] }
  | _ => none }
def RtcpKeepsWrongFalsely : Prop := rtcpKeepsRow.holds Try.pinned (OpenSpec.ofChange rtcpKeepsWrong)

/- THE SECOND FORM. 'bulk': how many values and letters a reading holds, each counted each time it is reached (what is shared counts as often as it is met; a slice's spare places count too). A statement '..UptoSaid' is the law's where the arguments, and the package variables that the reading takes, are together of bulk at most 1048576: NARROWER than '..Said'. Prove '..Said' where nothing that the law and all that it calls make is longer than what came in: it says more and counts as full. Else prove '..UptoSaid'. A law counts once. -/
mutual
def uptoBulk {H : Type} : DataW H → Nat
  | .lit (.string bytes) => bytes.length + 1
  | .lit _ => 1
  | .nil => 1
  | .ptr d => uptoBulk d + 1
  | .slice elems spare => uptoBulkAll elems + uptoBulkAll spare + 1
  | .agg parts => uptoBulkAll parts + 1
  | .iface _ d => uptoBulk d + 1
  | .map entries => uptoBulkEntries entries + 1
  | .held _ => 1
def uptoBulkAll {H : Type} : List (DataW H) → Nat
  | [] => 0
  | d :: r => uptoBulk d + uptoBulkAll r
def uptoBulkEntries {H : Type} : List (Lit × DataW H) → Nat
  | [] => 0
  | x :: r => uptoBulkEntry x + uptoBulkEntries r
def uptoBulkEntry {H : Type} : Lit × DataW H → Nat
  | (.string bytes, d) => bytes.length + uptoBulk d + 1
  | (_, d) => uptoBulk d + 1
 end
def uptoSmall : (H : Type) → List (DataW H) → Bool := fun _ ds => decide (uptoBulkAll ds ≤ 1048576)
def OpenSpec.upto (s : _root_.Go.ChangeSpec) : _root_.Go.OpenSpec := { _root_.Go.OpenSpec.ofChange s with cond := some uptoSmall }

/-- 'rostrumlaw13.RtcpBuilds', WHERE WHAT IT READS IS OF BULK AT MOST 1048576: true; the input reads as it did. -/
def rtcpBuildsUptoRow : OpenClaim := { program := "ytddopbbmgpnjjaa", sum := "bff451be8ceb90d6dddbae29d5ce20e417f4f861de2b116d3d2294c8e49ff38d", func := "rostrum/rostrumlaw13.RtcpBuilds", spec := "rtcpBuilds", unfollowed := true, recurses := true, apart := false, narrowed := true }
def RtcpBuildsUptoSaid : Prop := rtcpBuildsUptoRow.holds Try.pinned (OpenSpec.upto rtcpBuildsSpec)

/-- 'rostrumlaw13.RtcpParses', WHERE WHAT IT READS IS OF BULK AT MOST 1048576: true; the input reads as it did. -/
def rtcpParsesUptoRow : OpenClaim := { program := "ytddopbbmgpnjjaa", sum := "bff451be8ceb90d6dddbae29d5ce20e417f4f861de2b116d3d2294c8e49ff38d", func := "rostrum/rostrumlaw13.RtcpParses", spec := "rtcpParses", unfollowed := true, recurses := true, apart := false, narrowed := true }
def RtcpParsesUptoSaid : Prop := rtcpParsesUptoRow.holds Try.pinned (OpenSpec.upto rtcpParsesSpec)

/-- 'rostrumlaw13.RtcpBack', WHERE WHAT IT READS IS OF BULK AT MOST 1048576: true; the input reads as it did. -/
def rtcpBackUptoRow : OpenClaim := { program := "ytddopbbmgpnjjaa", sum := "bff451be8ceb90d6dddbae29d5ce20e417f4f861de2b116d3d2294c8e49ff38d", func := "rostrum/rostrumlaw13.RtcpBack", spec := "rtcpBack", unfollowed := true, recurses := true, apart := false, narrowed := true }
def RtcpBackUptoSaid : Prop := rtcpBackUptoRow.holds Try.pinned (OpenSpec.upto rtcpBackSpec)

/-- 'rostrumlaw13.RtcpTurned', WHERE WHAT IT READS IS OF BULK AT MOST 1048576: true; the input reads as it did. -/
def rtcpTurnedUptoRow : OpenClaim := { program := "ytddopbbmgpnjjaa", sum := "bff451be8ceb90d6dddbae29d5ce20e417f4f861de2b116d3d2294c8e49ff38d", func := "rostrum/rostrumlaw13.RtcpTurned", spec := "rtcpTurned", unfollowed := true, recurses := true, apart := false, narrowed := true }
def RtcpTurnedUptoSaid : Prop := rtcpTurnedUptoRow.holds Try.pinned (OpenSpec.upto rtcpTurnedSpec)

/-- 'rostrumlaw13.RtcpMissing', WHERE WHAT IT READS IS OF BULK AT MOST 1048576: true; the input reads as it did. -/
def rtcpMissingUptoRow : OpenClaim := { program := "ytddopbbmgpnjjaa", sum := "bff451be8ceb90d6dddbae29d5ce20e417f4f861de2b116d3d2294c8e49ff38d", func := "rostrum/rostrumlaw13.RtcpMissing", spec := "rtcpMissing", unfollowed := true, recurses := true, apart := false, narrowed := true }
def RtcpMissingUptoSaid : Prop := rtcpMissingUptoRow.holds Try.pinned (OpenSpec.upto rtcpMissingSpec)

/-- 'rostrumlaw13.RtcpKeeps', WHERE WHAT IT READS IS OF BULK AT MOST 1048576: true; the input reads as it did. -/
def rtcpKeepsUptoRow : OpenClaim := { program := "ytddopbbmgpnjjaa", sum := "bff451be8ceb90d6dddbae29d5ce20e417f4f861de2b116d3d2294c8e49ff38d", func := "rostrum/rostrumlaw13.RtcpKeeps", spec := "rtcpKeeps", unfollowed := true, recurses := true, apart := false, narrowed := true }
def RtcpKeepsUptoSaid : Prop := rtcpKeepsUptoRow.holds Try.pinned (OpenSpec.upto rtcpKeepsSpec)

end Rows
end Go.Proofs.Ytddopbbmgpnjjaa
