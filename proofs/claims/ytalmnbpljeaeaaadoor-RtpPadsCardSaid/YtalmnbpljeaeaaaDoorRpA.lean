/- rtp.Packet.good, wire.Writer.Even on an empty writer: packets without contributors and extensions. -/
import Derived.Test.YtalmnbpljeaeaaaDoorMo
namespace Go.Proofs.YtalmnbpljeaeaaaDoor
open Go.RowKit
set_option linter.unusedSimpArgs false

/-- a packet without contributors and extensions -/
abbrev pkC (m : Bool) (t : Nat) (A : Option Addr) (n c pad : Nat) : Array Value := #[.bool m, .int .i64 t, .int .u16 0, .int .u32 0, .int .u32 0, .slice none 0 0, .slice none 0 0, .slice A n c, .int .i64 pad]
theorem goodG (m : Bool) (t : Nat) (A : Option Addr) (n c pad : Nat) (ht : t ≤ 127) (hn : n ≤ 1500) (hp : pad ≤ 255) (w : World) : Calls Tryd.prog 7 #[.agg (pkC m t A n c pad)] w fun e w' => e = .returned (.bool true) ∧ w' = w.alloc (.cells (pkC m t A n c pad) 32) := by
  have h1 : (t : Int) ≤ 127 := by omega
  have h2 : (n : Int) ≤ 1500 := by omega
  have h3 : (pad : Int) ≤ 255 := by omega
  go_enter Tryd.func7, Tryd.ntmps7
  go_wp2
  go_loopw [8] (fun iv wr => iv = .int .i64 0 ∧ wr = w.alloc (.cells (pkC m t A n c pad) 32)) (fun _ _ => 0)
  case atStart => exact ⟨rfl, rfl⟩
  case round =>
    obtain ⟨rfl, rfl⟩ := hrel
    go_wp2
    go_returns
    exact ⟨rfl, rfl⟩
theorem evenA (w : World) (q : Nat) (hc : w.cell? ⟨q, 0, none⟩ = some (.slice none 0 0)) : Calls Tryd.prog 12 #[.pointer (some ⟨q, 0, none⟩)] w fun e w' => e = .returned (.tuple #[]) ∧ w' = w := by
  have HC := Lib.hid hc
  clear hc
  go_enter Tryd.func12, Tryd.ntmps12
  go_wp2
  go_loopw [] (fun wr => wr = w) (fun _ => 0)
  case atStart => rfl
  case round =>
    obtain rfl := hrel
    have hc := HC.out
    go_wp2
    go_returns
    exact ⟨rfl, rfl⟩
end Go.Proofs.YtalmnbpljeaeaaaDoor
