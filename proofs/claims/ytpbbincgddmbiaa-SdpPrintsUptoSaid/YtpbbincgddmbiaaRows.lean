/-
  No cell of these rows narrows 'for every input' (looked for: loops, veiled, ifaces, maps, wideKeys, modest, calm, conditions, laid).
  DERIVED. THE GIVEN ROWS OF THIS SEAT. 5 by the template 'for every input the law returns true; each argument reads behind the call as it read before'; 0 by the template 'total and deterministic' (their statements: YtpbbincgddmbiaaTotals.lean).
  GIVEN WITH THE SEED: the statements are not yours to turn. If you find one false, say at which input.
  Laid BY PROGRAM, IN A SANDBOX (cutbox-rows.mjs): the forced cells as the released guide's own fill.sh prints them over the translation e47fe77f1e076c31… (all of the seat's roots in one cut). By AI agents, Wed Nov 11 2026. No macro, syntax, notation, axiom, sorry.
-/
import Derived.Test.YtpbbincgddmbiaaChecked
import GoSem.Claim
import GoSem.ClaimJoined
import GoSem.ClaimMapViews
import Derived.JoinedTies
import Derived.KernelRfl
namespace Go.Proofs.Ytpbbincgddmbiaa
/- THE CELL 'sum', in the pinned program and in every row, IS THE sha256 OF THE DUMP (.gsa) THAT YtpbbincgddmbiaaProg.lean LOADS. Nothing in Lean hashes anything: it is a label: what it is worth is what the hold of that sum in a sandbox is worth. -/
noncomputable def Try.pinned : Pinned := { name := "ytpbbincgddmbiaa", sum := "e47fe77f1e076c315ec82b5e6731597d8038a7610ff1e64034b87e528ebb1832", checked := Try.checked }
namespace Rows
def none {H : Type} : Left H := { results := [], args := [] }

/-- 'rostrumlaw06.SdpParses': WHATEVER THE INPUT: true; the input reads as it did. -/
def sdpParsesSpec : ChangeSpec := { name := "sdpParses", fn := fun _ => fun
  | [d] => { results := [.lit (.bool true)], args := [d] }
  | _ => none }
def sdpParsesRow : OpenClaim := { program := "ytpbbincgddmbiaa", sum := "e47fe77f1e076c315ec82b5e6731597d8038a7610ff1e64034b87e528ebb1832", func := "rostrum/rostrumlaw06.SdpParses", spec := "sdpParses", inPlace := ["internal/bytealg.IndexByteString", "internal/bytealg.IndexString"], unfollowed := true, recurses := true, named := ["internal/bytealg.MaxLen"], apart := false }
def SdpParsesSaid : Prop := sdpParsesRow.holds Try.pinned (OpenSpec.ofChange sdpParsesSpec)

/-- ITS FALSE NEIGHBOUR: 'it returns false'. Refute it at one input. -/
def sdpParsesWrong : ChangeSpec := { name := "sdpParses", fn := fun _ => fun
  | [d] => { results := [.lit (.bool false)], args := [d] }
  | _ => none }
def SdpParsesWrongFalsely : Prop := sdpParsesRow.holds Try.pinned (OpenSpec.ofChange sdpParsesWrong)

/-- 'rostrumlaw06.SdpLimits': WHATEVER THE INPUT: true; the input reads as it did. -/
def sdpLimitsSpec : ChangeSpec := { name := "sdpLimits", fn := fun _ => fun
  | [d1, d2] => { results := [.lit (.bool true)], args := [d1, d2] }
  | _ => none }
def sdpLimitsRow : OpenClaim := { program := "ytpbbincgddmbiaa", sum := "e47fe77f1e076c315ec82b5e6731597d8038a7610ff1e64034b87e528ebb1832", func := "rostrum/rostrumlaw06.SdpLimits", spec := "sdpLimits", inPlace := ["internal/bytealg.IndexByteString", "internal/bytealg.IndexString"], unfollowed := true, recurses := true, named := ["internal/bytealg.MaxLen"], apart := false }
def SdpLimitsSaid : Prop := sdpLimitsRow.holds Try.pinned (OpenSpec.ofChange sdpLimitsSpec)

/-- ITS FALSE NEIGHBOUR: 'it returns false'. Refute it at one input. -/
def sdpLimitsWrong : ChangeSpec := { name := "sdpLimits", fn := fun _ => fun
  | [d1, d2] => { results := [.lit (.bool false)], args := [d1, d2] }
  | _ => none }
def SdpLimitsWrongFalsely : Prop := sdpLimitsRow.holds Try.pinned (OpenSpec.ofChange sdpLimitsWrong)

/-- 'rostrumlaw06.SdpLines': WHATEVER THE INPUT: true; the input reads as it did. -/
def sdpLinesSpec : ChangeSpec := { name := "sdpLines", fn := fun _ => fun
  | [d1, d2] => { results := [.lit (.bool true)], args := [d1, d2] }
  | _ => none }
def sdpLinesRow : OpenClaim := { program := "ytpbbincgddmbiaa", sum := "e47fe77f1e076c315ec82b5e6731597d8038a7610ff1e64034b87e528ebb1832", func := "rostrum/rostrumlaw06.SdpLines", spec := "sdpLines", inPlace := ["internal/bytealg.IndexByteString", "internal/bytealg.IndexString"], unfollowed := true, recurses := true, named := ["internal/bytealg.MaxLen"], apart := false }
def SdpLinesSaid : Prop := sdpLinesRow.holds Try.pinned (OpenSpec.ofChange sdpLinesSpec)

/-- ITS FALSE NEIGHBOUR: 'it returns false'. Refute it at one input. -/
def sdpLinesWrong : ChangeSpec := { name := "sdpLines", fn := fun _ => fun
  | [d1, d2] => { results := [.lit (.bool false)], args := [d1, d2] }
  | _ => none }
def SdpLinesWrongFalsely : Prop := sdpLinesRow.holds Try.pinned (OpenSpec.ofChange sdpLinesWrong)

/-- 'rostrumlaw06.SdpPrints': WHATEVER THE INPUT: true; the input reads as it did. -/
def sdpPrintsSpec : ChangeSpec := { name := "sdpPrints", fn := fun _ => fun
  | [d] => { results := [.lit (.bool true)], args := [d] }
  | _ => none }
def sdpPrintsRow : OpenClaim := { program := "ytpbbincgddmbiaa", sum := "e47fe77f1e076c315ec82b5e6731597d8038a7610ff1e64034b87e528ebb1832", func := "rostrum/rostrumlaw06.SdpPrints", spec := "sdpPrints", inPlace := ["internal/bytealg.IndexByteString", "internal/bytealg.IndexString", "internal/abi.NoEscape"], unfollowed := true, recurses := true, named := ["internal/bytealg.MaxLen"], apart := false }
def SdpPrintsSaid : Prop := sdpPrintsRow.holds Try.pinned (OpenSpec.ofChange sdpPrintsSpec)

/-- ITS FALSE NEIGHBOUR: 'it returns false'. Refute it at one input. -/
def sdpPrintsWrong : ChangeSpec := { name := "sdpPrints", fn := fun _ => fun
  | [d] => { results := [.lit (.bool false)], args := [d] }
  | _ => none }
def SdpPrintsWrongFalsely : Prop := sdpPrintsRow.holds Try.pinned (OpenSpec.ofChange sdpPrintsWrong)

/-- 'rostrumlaw06.SdpBack': WHATEVER THE INPUT: true; the input reads as it did. -/
def sdpBackSpec : ChangeSpec := { name := "sdpBack", fn := fun _ => fun
  | [d1, d2] => { results := [.lit (.bool true)], args := [d1, d2] }
  | _ => none }
def sdpBackRow : OpenClaim := { program := "ytpbbincgddmbiaa", sum := "e47fe77f1e076c315ec82b5e6731597d8038a7610ff1e64034b87e528ebb1832", func := "rostrum/rostrumlaw06.SdpBack", spec := "sdpBack", inPlace := ["internal/bytealg.IndexByteString", "internal/bytealg.IndexString", "internal/abi.NoEscape"], unfollowed := true, recurses := true, named := ["internal/bytealg.MaxLen"], apart := false }
def SdpBackSaid : Prop := sdpBackRow.holds Try.pinned (OpenSpec.ofChange sdpBackSpec)

/-- ITS FALSE NEIGHBOUR: 'it returns false'. Refute it at one input. -/
def sdpBackWrong : ChangeSpec := { name := "sdpBack", fn := fun _ => fun
  | [d1, d2] => { results := [.lit (.bool false)], args := [d1, d2] }
  | _ => none }
def SdpBackWrongFalsely : Prop := sdpBackRow.holds Try.pinned (OpenSpec.ofChange sdpBackWrong)

/- THE SECOND FORM. 'bulk': how many values and letters a reading holds, each counted each time it is reached (what is shared counts as often as it is met; a slice's spare places count too). A statement '..UptoSaid' is the law's where the arguments, and the package variables that the reading takes, are together of bulk at most 1048576: NARROWER than '..Said'. Prove '..Said' where nothing that the law and all that it calls make is longer than what came in: it says more and counts as full. Else prove '..UptoSaid'. A law counts once. -/
mutual
def uptoBulk {H : Type} : DataW H → Nat
  | .lit (.string bytes) => bytes.length + 1
  | .lit _ => 1
  | .nil => 1
  | .ptr d => uptoBulk d + 1
  | .slice elems spare => uptoBulkAll elems + uptoBulkAll spare + 1
  | .agg parts => uptoBulkAll parts + 1
  | .iface _ d => uptoBulk d + 1
  | .map entries => uptoBulkEntries entries + 1
  | .held _ => 1
def uptoBulkAll {H : Type} : List (DataW H) → Nat
  | [] => 0
  | d :: r => uptoBulk d + uptoBulkAll r
def uptoBulkEntries {H : Type} : List (Lit × DataW H) → Nat
  | [] => 0
  | x :: r => uptoBulkEntry x + uptoBulkEntries r
def uptoBulkEntry {H : Type} : Lit × DataW H → Nat
  | (.string bytes, d) => bytes.length + uptoBulk d + 1
  | (_, d) => uptoBulk d + 1
 end
def uptoSmall : (H : Type) → List (DataW H) → Bool := fun _ ds => decide (uptoBulkAll ds ≤ 1048576)
def OpenSpec.upto (s : _root_.Go.ChangeSpec) : _root_.Go.OpenSpec := { _root_.Go.OpenSpec.ofChange s with cond := some uptoSmall }

/-- 'rostrumlaw06.SdpParses', WHERE WHAT IT READS IS OF BULK AT MOST 1048576: true; the input reads as it did. -/
def sdpParsesUptoRow : OpenClaim := { program := "ytpbbincgddmbiaa", sum := "e47fe77f1e076c315ec82b5e6731597d8038a7610ff1e64034b87e528ebb1832", func := "rostrum/rostrumlaw06.SdpParses", spec := "sdpParses", inPlace := ["internal/bytealg.IndexByteString", "internal/bytealg.IndexString"], unfollowed := true, recurses := true, named := ["internal/bytealg.MaxLen"], apart := false, narrowed := true }
def SdpParsesUptoSaid : Prop := sdpParsesUptoRow.holds Try.pinned (OpenSpec.upto sdpParsesSpec)

/-- 'rostrumlaw06.SdpLimits', WHERE WHAT IT READS IS OF BULK AT MOST 1048576: true; the input reads as it did. -/
def sdpLimitsUptoRow : OpenClaim := { program := "ytpbbincgddmbiaa", sum := "e47fe77f1e076c315ec82b5e6731597d8038a7610ff1e64034b87e528ebb1832", func := "rostrum/rostrumlaw06.SdpLimits", spec := "sdpLimits", inPlace := ["internal/bytealg.IndexByteString", "internal/bytealg.IndexString"], unfollowed := true, recurses := true, named := ["internal/bytealg.MaxLen"], apart := false, narrowed := true }
def SdpLimitsUptoSaid : Prop := sdpLimitsUptoRow.holds Try.pinned (OpenSpec.upto sdpLimitsSpec)

/-- 'rostrumlaw06.SdpLines', WHERE WHAT IT READS IS OF BULK AT MOST 1048576: true; the input reads as it did. -/
def sdpLinesUptoRow : OpenClaim := { program := "ytpbbincgddmbiaa", sum := "e47fe77f1e076c315ec82b5e6731597d8038a7610ff1e64034b87e528ebb1832", func := "rostrum/rostrumlaw06.SdpLines", spec := "sdpLines", inPlace := ["internal/bytealg.IndexByteString", "internal/bytealg.IndexString"], unfollowed := true, recurses := true, named := ["internal/bytealg.MaxLen"], apart := false, narrowed := true }
def SdpLinesUptoSaid : Prop := sdpLinesUptoRow.holds Try.pinned (OpenSpec.upto sdpLinesSpec)

/-- 'rostrumlaw06.SdpPrints', WHERE WHAT IT READS IS OF BULK AT MOST 1048576: true; the input reads as it did. -/
def sdpPrintsUptoRow : OpenClaim := { program := "ytpbbincgddmbiaa", sum := "e47fe77f1e076c315ec82b5e6731597d8038a7610ff1e64034b87e528ebb1832", func := "rostrum/rostrumlaw06.SdpPrints", spec := "sdpPrints", inPlace := ["internal/bytealg.IndexByteString", "internal/bytealg.IndexString", "internal/abi.NoEscape"], unfollowed := true, recurses := true, named := ["internal/bytealg.MaxLen"], apart := false, narrowed := true }
def SdpPrintsUptoSaid : Prop := sdpPrintsUptoRow.holds Try.pinned (OpenSpec.upto sdpPrintsSpec)

/-- 'rostrumlaw06.SdpBack', WHERE WHAT IT READS IS OF BULK AT MOST 1048576: true; the input reads as it did. -/
def sdpBackUptoRow : OpenClaim := { program := "ytpbbincgddmbiaa", sum := "e47fe77f1e076c315ec82b5e6731597d8038a7610ff1e64034b87e528ebb1832", func := "rostrum/rostrumlaw06.SdpBack", spec := "sdpBack", inPlace := ["internal/bytealg.IndexByteString", "internal/bytealg.IndexString", "internal/abi.NoEscape"], unfollowed := true, recurses := true, named := ["internal/bytealg.MaxLen"], apart := false, narrowed := true }
def SdpBackUptoSaid : Prop := sdpBackUptoRow.holds Try.pinned (OpenSpec.upto sdpBackSpec)

end Rows
end Go.Proofs.Ytpbbincgddmbiaa
