/-
  No cell of these rows narrows 'for every input' (looked for: loops, veiled, ifaces, maps, wideKeys, modest, calm, conditions, laid).
  DERIVED. THE GIVEN ROWS OF THIS SEAT. 4 by the template 'for every input the law returns true; each argument reads behind the call as it read before'; 0 by the template 'total and deterministic' (their statements: YtikigghknbaleaaTotals.lean).
  GIVEN WITH THE SEED: the statements are not yours to turn. If you find one false, say at which input.
  Laid BY PROGRAM, IN A SANDBOX (cutbox-rows.mjs): the forced cells as the released guide's own fill.sh prints them over the translation d647fc340ab86bc4… (all of the seat's roots in one cut). By AI agents, Wed Nov 11 2026. No macro, syntax, notation, axiom, sorry.
-/
import Derived.Test.YtikigghknbaleaaChecked
import GoSem.Claim
import GoSem.ClaimJoined
import GoSem.ClaimMapViews
import Derived.JoinedTies
import Derived.KernelRfl
namespace Go.Proofs.Ytikigghknbaleaa
/- THE CELL 'sum', in the pinned program and in every row, IS THE sha256 OF THE DUMP (.gsa) THAT YtikigghknbaleaaProg.lean LOADS. Nothing in Lean hashes anything: it is a label: what it is worth is what the hold of that sum in a sandbox is worth. -/
noncomputable def Try.pinned : Pinned := { name := "ytikigghknbaleaa", sum := "d647fc340ab86bc40c830800e4acca287c42d129892794ba1320fef9bc89f30c", checked := Try.checked }
namespace Rows
def none {H : Type} : Left H := { results := [], args := [] }

/-- 'rostrumlaw16.FrameBegins': WHATEVER THE INPUT: true; the input reads as it did. -/
def frameBeginsSpec : ChangeSpec := { name := "frameBegins", fn := fun _ => fun
  | [d1, d2] => { results := [.lit (.bool true)], args := [d1, d2] }
  | _ => none }
def frameBeginsRow : OpenClaim := { program := "ytikigghknbaleaa", sum := "d647fc340ab86bc40c830800e4acca287c42d129892794ba1320fef9bc89f30c", func := "rostrum/rostrumlaw16.FrameBegins", spec := "frameBegins", unfollowed := true, recurses := true, apart := false }
def FrameBeginsSaid : Prop := frameBeginsRow.holds Try.pinned (OpenSpec.ofChange frameBeginsSpec)

/-- ITS FALSE NEIGHBOUR: 'it returns false'. Refute it at one input. -/
def frameBeginsWrong : ChangeSpec := { name := "frameBegins", fn := fun _ => fun
  | [d1, d2] => { results := [.lit (.bool false)], args := [d1, d2] }
  | _ => none }
def FrameBeginsWrongFalsely : Prop := frameBeginsRow.holds Try.pinned (OpenSpec.ofChange frameBeginsWrong)

/-- 'rostrumlaw16.FrameUnits': WHATEVER THE INPUT: true; the input reads as it did. -/
def frameUnitsSpec : ChangeSpec := { name := "frameUnits", fn := fun _ => fun
  | [d] => { results := [.lit (.bool true)], args := [d] }
  | _ => none }
def frameUnitsRow : OpenClaim := { program := "ytikigghknbaleaa", sum := "d647fc340ab86bc40c830800e4acca287c42d129892794ba1320fef9bc89f30c", func := "rostrum/rostrumlaw16.FrameUnits", spec := "frameUnits", unfollowed := true, recurses := true, apart := false }
def FrameUnitsSaid : Prop := frameUnitsRow.holds Try.pinned (OpenSpec.ofChange frameUnitsSpec)

/-- ITS FALSE NEIGHBOUR: 'it returns false'. Refute it at one input. -/
def frameUnitsWrong : ChangeSpec := { name := "frameUnits", fn := fun _ => fun
  | [d] => { results := [.lit (.bool false)], args := [d] }
  | _ => none }
def FrameUnitsWrongFalsely : Prop := frameUnitsRow.holds Try.pinned (OpenSpec.ofChange frameUnitsWrong)

/-- 'rostrumlaw16.FramePictures': WHATEVER THE INPUT: true; the input reads as it did. -/
def framePicturesSpec : ChangeSpec := { name := "framePictures", fn := fun _ => fun
  | [d1, d2] => { results := [.lit (.bool true)], args := [d1, d2] }
  | _ => none }
def framePicturesRow : OpenClaim := { program := "ytikigghknbaleaa", sum := "d647fc340ab86bc40c830800e4acca287c42d129892794ba1320fef9bc89f30c", func := "rostrum/rostrumlaw16.FramePictures", spec := "framePictures", unfollowed := true, recurses := true, apart := false }
def FramePicturesSaid : Prop := framePicturesRow.holds Try.pinned (OpenSpec.ofChange framePicturesSpec)

/-- ITS FALSE NEIGHBOUR: 'it returns false'. Refute it at one input. -/
def framePicturesWrong : ChangeSpec := { name := "framePictures", fn := fun _ => fun
  | [d1, d2] => { results := [.lit (.bool false)], args := [d1, d2] }
  | _ => none }
def FramePicturesWrongFalsely : Prop := framePicturesRow.holds Try.pinned (OpenSpec.ofChange framePicturesWrong)

/-- 'rostrumlaw16.FrameSets': WHATEVER THE INPUT: true; the input reads as it did. -/
def frameSetsSpec : ChangeSpec := { name := "frameSets", fn := fun _ => fun
  | [d1, d2] => { results := [.lit (.bool true)], args := [d1, d2] }
  | _ => none }
def frameSetsRow : OpenClaim := { program := "ytikigghknbaleaa", sum := "d647fc340ab86bc40c830800e4acca287c42d129892794ba1320fef9bc89f30c", func := "rostrum/rostrumlaw16.FrameSets", spec := "frameSets", unfollowed := true, recurses := true, apart := false }
def FrameSetsSaid : Prop := frameSetsRow.holds Try.pinned (OpenSpec.ofChange frameSetsSpec)

/-- ITS FALSE NEIGHBOUR: 'it returns false'. Refute it at one input. -/
def frameSetsWrong : ChangeSpec := { name := "frameSets", fn := fun _ => fun
  | [d1, d2] => { results := [.lit (.bool false)], args := [d1, d2] }
  | _ => none }
def FrameSetsWrongFalsely : Prop := frameSetsRow.holds Try.pinned (OpenSpec.ofChange frameSetsWrong)

/- THE SECOND FORM. 'bulk': how many values and letters a reading holds, each counted each time it is reached (what is shared counts as often as it is met; a slice's spare places count too). A statement '..UptoSaid' is the law's where the arguments, and the package variables that the reading takes, are together of bulk at most 1048576: NARROWER than '..Said'. Prove '..Said' where nothing that the law and all that it calls make is longer than what came in: it says more and counts as full. Else prove '..UptoSaid'. A law counts once. -/
mutual
def uptoBulk {H : Type} : DataW H → Nat
  | .lit (.string bytes) => bytes.length + 1
  | .lit _ => 1
  | .nil => 1
  | .ptr d => uptoBulk d + 1
  | .slice elems spare => uptoBulkAll elems + uptoBulkAll spare + 1
  | .agg parts => uptoBulkAll parts + 1
  | .iface _ d => uptoBulk d + 1
  | .map entries => uptoBulkEntries entries + 1
  | .held _ => 1
def uptoBulkAll {H : Type} : List (DataW H) → Nat
  | [] => 0
  | d :: r => uptoBulk d + uptoBulkAll r
def uptoBulkEntries {H : Type} : List (Lit × DataW H) → Nat
  | [] => 0
  | x :: r => uptoBulkEntry x + uptoBulkEntries r
def uptoBulkEntry {H : Type} : Lit × DataW H → Nat
  | (.string bytes, d) => bytes.length + uptoBulk d + 1
  | (_, d) => uptoBulk d + 1
 end
def uptoSmall : (H : Type) → List (DataW H) → Bool := fun _ ds => decide (uptoBulkAll ds ≤ 1048576)
def OpenSpec.upto (s : _root_.Go.ChangeSpec) : _root_.Go.OpenSpec := { _root_.Go.OpenSpec.ofChange s with cond := some uptoSmall }

/-- 'rostrumlaw16.FrameBegins', WHERE WHAT IT READS IS OF BULK AT MOST 1048576: true; the input reads as it did. -/
def frameBeginsUptoRow : OpenClaim := { program := "ytikigghknbaleaa", sum := "d647fc340ab86bc40c830800e4acca287c42d129892794ba1320fef9bc89f30c", func := "rostrum/rostrumlaw16.FrameBegins", spec := "frameBegins", unfollowed := true, recurses := true, apart := false, narrowed := true }
def FrameBeginsUptoSaid : Prop := frameBeginsUptoRow.holds Try.pinned (OpenSpec.upto frameBeginsSpec)

/-- 'rostrumlaw16.FrameUnits', WHERE WHAT IT READS IS OF BULK AT MOST 1048576: true; the input reads as it did. -/
def frameUnitsUptoRow : OpenClaim := { program := "ytikigghknbaleaa", sum := "d647fc340ab86bc40c830800e4acca287c42d129892794ba1320fef9bc89f30c", func := "rostrum/rostrumlaw16.FrameUnits", spec := "frameUnits", unfollowed := true, recurses := true, apart := false, narrowed := true }
def FrameUnitsUptoSaid : Prop := frameUnitsUptoRow.holds Try.pinned (OpenSpec.upto frameUnitsSpec)

/-- 'rostrumlaw16.FramePictures', WHERE WHAT IT READS IS OF BULK AT MOST 1048576: true; the input reads as it did. -/
def framePicturesUptoRow : OpenClaim := { program := "ytikigghknbaleaa", sum := "d647fc340ab86bc40c830800e4acca287c42d129892794ba1320fef9bc89f30c", func := "rostrum/rostrumlaw16.FramePictures", spec := "framePictures", unfollowed := true, recurses := true, apart := false, narrowed := true }
def FramePicturesUptoSaid : Prop := framePicturesUptoRow.holds Try.pinned (OpenSpec.upto framePicturesSpec)

/-- 'rostrumlaw16.FrameSets', WHERE WHAT IT READS IS OF BULK AT MOST 1048576: true; the input reads as it did. -/
def frameSetsUptoRow : OpenClaim := { program := "ytikigghknbaleaa", sum := "d647fc340ab86bc40c830800e4acca287c42d129892794ba1320fef9bc89f30c", func := "rostrum/rostrumlaw16.FrameSets", spec := "frameSets", unfollowed := true, recurses := true, apart := false, narrowed := true }
def FrameSetsUptoSaid : Prop := frameSetsUptoRow.holds Try.pinned (OpenSpec.upto frameSetsSpec)

end Rows
end Go.Proofs.Ytikigghknbaleaa
