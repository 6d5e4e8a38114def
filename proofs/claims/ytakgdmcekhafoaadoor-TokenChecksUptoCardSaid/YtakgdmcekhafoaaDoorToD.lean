/- sha1.MAC: what it computes (the walk is not begun). -/
import Derived.Test.YtakgdmcekhafoaaDoorToC
namespace Go.Proofs.YtakgdmcekhafoaaDoor
open Go.RowKit
set_option linter.unusedSimpArgs false

/-- a key of 64 bytes -/
def shortKey (k : List UInt8) : List UInt8 := if 64 < k.length then outS (shaS k) else k
def padKey (k : List UInt8) : List UInt8 := shortKey k ++ List.replicate (64 - (shortKey k).length) 0
def macS (k m : List UInt8) : List UInt8 := outS (shaS ((padKey k).map (· ^^^ 92) ++ outS (shaS ((padKey k).map (· ^^^ 54) ++ m))))
theorem shortKey_len (k : List UInt8) : (shortKey k).length ≤ 64 := by
  unfold shortKey
  split
  · exact Nat.le_of_ble_eq_true rfl
  · omega
theorem padKey_len (k : List UInt8) : (padKey k).length = 64 := by
  have := shortKey_len k
  unfold padKey
  rw [List.length_append, List.length_replicate]
  omega
theorem macS_len (k m : List UInt8) : (macS k m).length = 20 := rfl
/-- bytes in an image, as a part -/
theorem PartIn.byts {I : Img} {M : List Res} {A : Option Addr} {bs : List UInt8} (h : Byts I A bs) (c : Nat) : PartIn I M (.slice A bs.length c) bs :=
  ⟨⟨A, c, rfl⟩, fun _ _ hs => h.src hs Tryd.underlying22 c⟩
end Go.Proofs.YtakgdmcekhafoaaDoor
