/- words of 32 bits; math/bits.RotateLeft32, rostrumref02.rotl. -/
import Derived.Test.YtakgdmcekhafoaaDoorMo
namespace Go.Proofs.YtakgdmcekhafoaaDoor
open Go.RowKit
set_option linter.unusedSimpArgs false

/-- a word -/
abbrev wi (x : BitVec 32) : Int := x.toNat
abbrev wv (x : BitVec 32) : Value := .int .u32 (wi x)
theorem wi_lt (x : BitVec 32) : wi x < 4294967296 := by have := x.isLt; unfold wi; omega
theorem ofInt_wi (x : BitVec 32) : BitVec.ofInt 32 (wi x) = x := by
  unfold wi
  rw [BitVec.ofInt_natCast, BitVec.ofNat_toNat, BitVec.setWidth_eq]
theorem wrap_wi (x : BitVec 32) : IntKind.u32.wrap (wi x) = wi x := by
  have h1 := wi_lt x
  have h2 : 0 ≤ wi x := Int.natCast_nonneg _
  rw [u32_mod, Int.emod_eq_of_lt h2 h1]
theorem wi_and (x y : BitVec 32) : bits .and .u32 (wi x) (wi y) = wi (x &&& y) := by
  show IntKind.u32.wrap ((BitVec.ofInt 32 (wi x) &&& BitVec.ofInt 32 (wi y)).toNat : Int) = _
  rw [ofInt_wi, ofInt_wi]
  exact wrap_wi _
theorem wi_or (x y : BitVec 32) : bits .or .u32 (wi x) (wi y) = wi (x ||| y) := by
  show IntKind.u32.wrap ((BitVec.ofInt 32 (wi x) ||| BitVec.ofInt 32 (wi y)).toNat : Int) = _
  rw [ofInt_wi, ofInt_wi]
  exact wrap_wi _
theorem wi_xor (x y : BitVec 32) : bits .xor .u32 (wi x) (wi y) = wi (x ^^^ y) := by
  show IntKind.u32.wrap ((BitVec.ofInt 32 (wi x) ^^^ BitVec.ofInt 32 (wi y)).toNat : Int) = _
  rw [ofInt_wi, ofInt_wi]
  exact wrap_wi _
theorem wi_add (x y : BitVec 32) : (wi x + wi y) % 4294967296 = wi (x + y) := by
  unfold wi
  rw [BitVec.toNat_add]
  omega
theorem wi_shl (x : BitVec 32) (n : Nat) : wi x * ((2 ^ n : Nat) : Int) % 4294967296 = wi (x <<< n) := by
  unfold wi
  rw [BitVec.toNat_shiftLeft, Nat.shiftLeft_eq, show (4294967296 : Int) = ((2 ^ 32 : Nat) : Int) from rfl, ← Int.natCast_mul, ← Int.natCast_emod]
theorem wi_shr (x : BitVec 32) (n : Nat) : wi x / ((2 ^ n : Nat) : Int) = wi (x >>> n) := by
  unfold wi
  rw [BitVec.toNat_ushiftRight, Nat.shiftRight_eq_div_pow]
  push_cast
  rfl
def rot (n : Nat) (x : BitVec 32) : BitVec 32 := (x <<< n) ||| (x >>> (32 - n))
theorem rot_wi (n : Nat) (x : BitVec 32) : bits .or .u32 (wi x * ((2 ^ n : Nat) : Int) % 4294967296) (wi x / ((2 ^ (32 - n) : Nat) : Int)) = wi (rot n x) := by
  rw [wi_shl, wi_shr, wi_or]
  rfl
theorem rotP (n : Nat) (hn : n = 1 ∨ n = 5 ∨ n = 30) (x : BitVec 32) (w : World) : Calls Tryd.prog 87 #[wv x, .int .i64 n] w fun e w' => e = .returned (wv (rot n x)) ∧ w' = w := by
  have hr := rot_wi n x
  rcases hn with rfl | rfl | rfl
  · have hb : bits .and .u64 1 31 = 1 := by decide
    have HR := Lib.hid hr
    clear hr
    go_enter Tryd.func87, Tryd.ntmps87
    go_wp2
    go_returns
    exact ⟨ret_eq (congrArg (Value.int .u32) HR.out), rfl⟩
  · have hb : bits .and .u64 5 31 = 5 := by decide
    have HR := Lib.hid hr
    clear hr
    go_enter Tryd.func87, Tryd.ntmps87
    go_wp2
    go_returns
    exact ⟨ret_eq (congrArg (Value.int .u32) HR.out), rfl⟩
  · have hb : bits .and .u64 30 31 = 30 := by decide
    have HR := Lib.hid hr
    clear hr
    go_enter Tryd.func87, Tryd.ntmps87
    go_wp2
    go_returns
    exact ⟨ret_eq (congrArg (Value.int .u32) HR.out), rfl⟩
theorem rotR (n : Nat) (hn : n = 1 ∨ n = 5 ∨ n = 30) (x : BitVec 32) (w : World) : Calls Tryd.prog 65 #[wv x, .int .u64 n] w fun e w' => e = .returned (wv (rot n x)) ∧ w' = w := by
  have hr := rot_wi n x
  rcases hn with rfl | rfl | rfl
  all_goals
    have HR := Lib.hid hr
    clear hr
    go_enter Tryd.func65, Tryd.ntmps65
    go_wp2
    go_returns
    exact ⟨ret_eq (congrArg (Value.int .u32) HR.out), rfl⟩
end Go.Proofs.YtakgdmcekhafoaaDoor
