/- rtp.Head of bytes that Build wrote; bytes.Trim of noughts. -/
import Derived.Test.YtalmnbpljeaeaaaDoorRpC
import Derived.Test.YtalmnbpljeaeaaaDoorRd
namespace Go.Proofs.YtalmnbpljeaeaaaDoor
open Go.RowKit
set_option linter.unusedSimpArgs false

theorem buildL_len (m : Bool) (t : Nat) (pl : List UInt8) (pad : Nat) : (buildL m t pl pad).length = 12 + pl.length + pad := by
  unfold buildL tailL headL
  split
  · simp; omega
  · simp; omega
theorem buildL_at0 (m : Bool) (t : Nat) (pl : List UInt8) (pad : Nat) : ∃ r, buildL m t pl pad = first1 pad :: r := ⟨_, rfl⟩
set_option maxRecDepth 8000 in
set_option maxHeartbeats 400000 in
theorem headG (I : Img) (M : List Res) (w : World) (x : UInt8) (r : List UInt8) (A : Option Addr) (c : Nat) (hst : St I M w) (hb : Byts I A (x :: r)) (hx : x = 128 ∨ x = 160) (hl : 12 ≤ (x :: r).length) (hl2 : (x :: r).length ≤ 1500) :
    Calls Tryd.prog 13 #[.slice A (x :: r).length c] w fun e w' => e = .returned (.tuple #[.int .i64 12, .int .i64 0]) ∧ w = w' := by
  obtain ⟨g, o, rfl, hc, _⟩ := hb.at0
  have h0 := hc M w hst
  generalize (x :: r).length = n at hl hl2 ⊢
  have h1 : (12 : Int) ≤ n := by omega
  have h2 : (n : Int) ≤ 1500 := by omega
  clear hb hc hst hl hl2
  have e1 : bits BinOp.and IntKind.u8 128 15 = 0 := by decide +kernel
  have e2 : bits BinOp.and IntKind.u8 128 16 = 0 := by decide +kernel
  have e3 : bits BinOp.and IntKind.u8 160 15 = 0 := by decide +kernel
  have e4 : bits BinOp.and IntKind.u8 160 16 = 0 := by decide +kernel
  rcases hx with rfl | rfl
  all_goals
    go_enter Tryd.func13, Tryd.ntmps13
    go_wp2
    go_ret2
    exact ⟨rfl, rfl⟩
theorem rep_take (n k : Nat) : (List.replicate n (0 : UInt8)).take k = List.replicate (min k n) 0 := by simp [List.take_replicate]
set_option maxHeartbeats 400000 in
theorem trimR (I : Img) (M : List Res) (w : World) (n : Nat) (A : Option Addr) (c : Nat) (hst : St I M w) (hb : Byts I A (List.replicate n 0)) (hn : n ≤ 255) (hc : n ≤ c) :
    Calls Tryd.prog 26 #[.slice A n c, .int .u8 0] w fun e w' => e = .returned (.slice A 0 c) ∧ w = w' := by
  have HS := Lib.hid hst
  have HB := Lib.hid hb
  clear hst hb
  go_enter Tryd.func26, Tryd.ntmps26
  go_wp2
  go_loopw [0] (fun v wr => wr = w ∧ ∃ k : Nat, k ≤ n ∧ v = .slice A k c) (fun v _ => match v with | .slice _ k _ => k | _ => 0)
  case atStart => exact ⟨rfl, n, Nat.le_refl _, rfl⟩
  case round =>
    obtain ⟨rfl, k, hk, rfl⟩ := hrel
    rcases Nat.eq_zero_or_pos k with rfl | h0
    · go_wp2
      go_ret
      exact ⟨rfl, rfl⟩
    · obtain ⟨g, o, rfl, hcell⟩ := HB.out.at (by simp; omega)
      have hce := hcell M _ HS.out (k - 1) (by simp; omega)
      obtain ⟨j, rfl⟩ : ∃ j, k = j + 1 := ⟨k - 1, by omega⟩
      simp only [Nat.add_sub_cancel, List.getElem_replicate] at hce
      have h1 : (j : Int) + 1 ≤ 255 := by omega
      have h2 : (j : Int) + 1 ≤ c := by omega
      clear hcell
      go_wp2
      go_roundw
      case rel => exact ⟨trivial, j, by omega, rfl⟩
      case measure => simp
set_option maxHeartbeats 400000 in
theorem trimL (w : World) (A : Option Addr) (c : Nat) :
    Calls Tryd.prog 25 #[.slice A 0 c, .int .u8 0] w fun e w' => e = .returned (.slice none 0 0) ∧ w = w' := by
  go_enter Tryd.func25, Tryd.ntmps25
  go_wp2
  go_loopw [0] (fun v wr => wr = w ∧ v = .slice A 0 c) (fun v _ => 0)
  case atStart => exact ⟨rfl, rfl⟩
  case round =>
    obtain ⟨rfl, rfl⟩ := hrel
    go_wp2
    go_ret
    exact ⟨rfl, rfl⟩
def Drawn (w w' : World) : Prop := ∃ k, w' = w.drewN k
set_option maxRecDepth 8000 in
set_option maxHeartbeats 400000 in
theorem trimZ (I : Img) (M : List Res) (w : World) (n : Nat) (A : Option Addr) (c : Nat) (hst : St I M w) (hb : Byts I A (List.replicate n 0)) (hn : n ≤ 255) (hc : n ≤ c) :
    Calls Tryd.prog 20 #[.slice A n c, .string ⟨#[0]⟩] w fun e w' => e = .returned (.slice none 0 0) ∧ Drawn w w' := by
  rcases Nat.eq_zero_or_pos n with rfl | h0
  · clear hb hst
    go_enter Tryd.func20, Tryd.ntmps20
    go_wp2
    go_ret
    exact ⟨rfl, 0, rfl⟩
  · have HC := Lib.hid (show ∀ k, Calls Tryd.prog 26 #[.slice A n c, .int .u8 0] (w.drewN k) fun e w' => e = .returned (.slice A 0 c) ∧ w' = w.drewN k from fun k => (trimR I M (w.drewN k) n A c (hst.drewN k) hb hn hc).mono fun _ _ h => ⟨h.1, h.2.symm⟩)
    have HL := Lib.hid (show ∀ k, Calls Tryd.prog 25 #[.slice A 0 c, .int .u8 0] (w.drewN k) fun e w' => e = .returned (.slice none 0 0) ∧ w' = w.drewN k from fun k => (trimL (w.drewN k) A c).mono fun _ _ h => ⟨h.1, h.2.symm⟩)
    have h1 : (n : Int) ≤ 255 := by omega
    have h2 : ((n : Int) == 0) = false := by rw [beq_eq_false_iff_ne]; omega
    clear hb hst
    have e0 : ∀ h, ((⟨#[0]⟩ : ByteArray)[0]'h) = (0 : UInt8) := fun _ => rfl
    go_enter Tryd.func20, Tryd.ntmps20
    go_wp2_with fail
    go_quiet ((first | (go_at_call 26; exact Calls.quiet_of_same (HC.out _)) | (go_at_call 25; exact Calls.quiet_of_same (HL.out _))))
    go_wp2
    go_ret
    exact ⟨rfl, _, rfl⟩
end Go.Proofs.YtalmnbpljeaeaaaDoor
