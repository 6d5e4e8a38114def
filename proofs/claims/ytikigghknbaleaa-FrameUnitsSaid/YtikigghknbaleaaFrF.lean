/- frame.Picture, frame.SetPicture, and the references'. -/
import Derived.Test.YtikigghknbaleaaFrE
namespace Go.Proofs.Ytikigghknbaleaa
open Go.RowKit
set_option linter.unusedSimpArgs false

theorem and127 (c : UInt8) : bits BinOp.and IntKind.u8 (c.toNat : Int) 127 = (c.toNat : Int) % 128 := by
  have h : ∀ n, n < 256 → bits BinOp.and IntKind.u8 ((n : Nat) : Int) 127 = (n : Int) % 128 := by decide +kernel
  exact h _ c.toNat_lt
def gb (b : List UInt8) (k : Nat) : UInt8 := b.getD k 0
/-- a picture's number, its bits -/
def picS (b : List UInt8) : Int × Int × Bool := match vpR b with
  | (_, s, _, ok) => if ok = false ∨ s = 0 then (0, 0, false) else if s = 1 then ((gb b 2).toNat, 7, true) else (((gb b 2).toNat % 128 * 256 + (gb b 3).toNat : Nat), 15, true)
def three (x : Int × Int × Bool) : Value := .tuple #[.int .i64 x.1, .int .i64 x.2.1, .bool x.2.2]
set_option maxHeartbeats 1000000 in
theorem picR (I : Img) (M : List Res) (w : World) (A : Option Addr) (c : Nat) (b : List UInt8) (hst : St I M w) (hb : Byts I A b) (hl : b.length ≤ 140737488351232) :
    Calls Try.prog 11 #[.slice A b.length c] w fun e w' => e = .returned (three (picS b)) ∧ ∃ n, w' = w.drewN n := by
  have hcall := vp8r I M w A c b hst hb hl
  rcases hv : vpR b with ⟨n, s, t, ok⟩
  rw [hv] at hcall
  simp only [vpV] at hcall
  have HS := Lib.hid (show picS b = if ok = false ∨ s = 0 then (0, 0, false) else if s = 1 then (((gb b 2).toNat : Int), 7, true) else (((gb b 2).toNat % 128 * 256 + (gb b 3).toNat : Nat), 15, true) by simp only [picS, hv])
  cases ok with
  | false =>
    clear hv hst hb
    go_enter Try.func11, Try.ntmps11
    go_wp2_with (go_at_call 18; refine hcall.mono ?_; rintro e w' ⟨rfl, rfl⟩)
    go_returns
    exact ⟨ret_eq (by rw [HS.out]; simp [three]), 0, rfl⟩
  | true =>
    obtain ⟨k, rfl, hk, hs⟩ := vpR_lt hv
    obtain ⟨g, o, rfl, _⟩ := hb.at (by omega)
    rcases hs with rfl | ⟨rfl, rfl, h2⟩ | ⟨rfl, rfl, h3⟩
    · clear hv hst hb
      go_enter Try.func11, Try.ntmps11
      go_wp2_with (go_at_call 18; refine hcall.mono ?_; rintro e w' ⟨rfl, rfl⟩)
      go_returns
      exact ⟨ret_eq (by rw [HS.out]; simp [three]), 0, rfl⟩
    · have z2 := hb.at' hst h2
      have h2' : (2 : Int) < b.length := by omega
      have hg2 := (gb b 2).toNat_lt
      replace z2 : w.cell? ⟨g, o + 2, none⟩ = some (.int .u8 (gb b 2).toNat) := z2
      clear hv hst hb
      go_enter Try.func11, Try.ntmps11
      go_wp2_with (go_at_call 18; refine hcall.mono ?_; rintro e w' ⟨rfl, rfl⟩)
      go_returns
      exact ⟨ret_eq (by rw [HS.out]; rfl), 0, rfl⟩
    · have z2 := hb.at' hst (show 2 < b.length by omega)
      have z3 := hb.at' hst h3
      replace z2 : w.cell? ⟨g, o + 2, none⟩ = some (.int .u8 (gb b 2).toNat) := z2
      replace z3 : w.cell? ⟨g, o + 3, none⟩ = some (.int .u8 (gb b 3).toNat) := z3
      have h2' : (2 : Int) < b.length := by omega
      have h3' : (3 : Int) < b.length := by omega
      have hg2 := (gb b 2).toNat_lt
      have hg3 := (gb b 3).toNat_lt
      have e127 := and127 (gb b 2)
      have hor := or_i64 ((gb b 2).toNat % 128) (gb b 3).toNat hg3 (by omega)
      have e128 : (((gb b 2).toNat % 128 : Nat) : Int) = ((gb b 2).toNat : Int) % 128 := by omega
      rw [e128] at hor
      clear hv hst hb e128
      go_enter Try.func11, Try.ntmps11
      go_wp2_with (go_at_call 18; refine hcall.mono ?_; rintro e w' ⟨rfl, rfl⟩)
      go_quiet (fail)
      go_wp2
      go_returns
      exact ⟨ret_eq (by rw [HS.out]; rfl), _, rfl⟩
set_option maxHeartbeats 1000000 in
theorem picP (I : Img) (M : List Res) (w : World) (A : Option Addr) (c : Nat) (b : List UInt8) (hst : St I M w) (hb : Byts I A b) (hl : b.length ≤ 140737488351232) :
    Calls Try.prog 10 #[.slice A b.length c] w (Ret I (fun v _ M' => v = three (picS b) ∧ M' = M)) := by
  have h14 := readP I M w A c b hst hb hl
  rcases hv : vpR b with ⟨n, s, t, ok⟩
  have HS := Lib.hid (show picS b = if ok = false ∨ s = 0 then (0, 0, false) else if s = 1 then (((gb b 2).toNat : Int), 7, true) else (((gb b 2).toNat % 128 * 256 + (gb b 3).toNat : Nat), 15, true) by simp only [picS, hv])
  have HB := Lib.hid hb
  cases ok with
  | false =>
    obtain ⟨B, A', N, D, hr⟩ := rdV_no hv
    rw [hr] at h14
    clear hv hst hb hr
    go_enter Try.func10, Try.ntmps10
    go_wp2_with fail
    refine h14.mono ?_
    rintro e w1 ⟨_, J, M', rfl, hle, hst, rfl, rfl⟩
    have H2 := Lib.hid hst
    clear hst
    go_wp2
    go_returns
    exact Ret.mk hle ((H2.out.alloc _ _).drop) ⟨by rw [HS.out]; simp [three], rfl⟩
  | true =>
    have hr := rdV_yes hv
    obtain ⟨k, rfl, hk, hs⟩ := vpR_lt hv
    obtain ⟨g, o, rfl, _⟩ := hb.at (by omega)
    rw [hr] at h14
    rcases hs with rfl | ⟨rfl, rfl, h2⟩ | ⟨rfl, rfl, h3⟩
    · rw [show bitsN 0 = 0 from rfl] at h14
      clear hv hst hb hr
      go_enter Try.func10, Try.ntmps10
      go_wp2_with fail
      refine h14.mono ?_
      rintro e w1 ⟨_, J, M', rfl, hle, hst, rfl, rfl⟩
      have H2 := Lib.hid hst
      clear hst
      go_wp2
      go_returns
      exact Ret.mk hle ((H2.out.alloc _ _).drop) ⟨by rw [HS.out]; simp [three], rfl⟩
    · rw [show bitsN 1 = 7 from rfl] at h14
      have h2' : (2 : Int) < b.length := by omega
      have hg2 := (gb b 2).toNat_lt
      clear hv hst hb hr
      go_enter Try.func10, Try.ntmps10
      go_wp2_with fail
      refine h14.mono ?_
      rintro e w1 ⟨_, J, M', rfl, hle, hst, rfl, rfl⟩
      have z2 := (HB.out.mono hle).at' hst h2
      replace z2 : w1.cell? ⟨g, o + 2, none⟩ = some (.int .u8 (gb b 2).toNat) := z2
      have hg : g < w1.heap.size := World.block_lt_of_cell? _ _ z2
      have H2 := Lib.hid hst
      clear hst
      go_wp2
      go_returns
      exact Ret.mk hle ((H2.out.alloc _ _).drop) ⟨by rw [HS.out]; rfl, rfl⟩
    · rw [show bitsN 2 = 15 from rfl] at h14
      have h2' : (2 : Int) < b.length := by omega
      have h3' : (3 : Int) < b.length := by omega
      have hg2 := (gb b 2).toNat_lt
      have hg3 := (gb b 3).toNat_lt
      have e127 := and127 (gb b 2)
      have hor := or_i64 ((gb b 2).toNat % 128) (gb b 3).toNat hg3 (by omega)
      have e128 : (((gb b 2).toNat % 128 : Nat) : Int) = ((gb b 2).toNat : Int) % 128 := by omega
      rw [e128] at hor
      clear hv hst hb hr e128
      go_enter Try.func10, Try.ntmps10
      go_wp2_with fail
      refine h14.mono ?_
      rintro e w1 ⟨_, J, M', rfl, hle, hst, rfl, rfl⟩
      have z2 := (HB.out.mono hle).at' hst (show 2 < b.length by omega)
      have z3 := (HB.out.mono hle).at' hst h3
      replace z2 : w1.cell? ⟨g, o + 2, none⟩ = some (.int .u8 (gb b 2).toNat) := z2
      replace z3 : w1.cell? ⟨g, o + 3, none⟩ = some (.int .u8 (gb b 3).toNat) := z3
      have hg : g < w1.heap.size := World.block_lt_of_cell? _ _ z2
      have H2 := Lib.hid hst
      clear hst
      go_wp2
      go_quiet (fail)
      go_wp2
      go_returns
      exact Ret.mk hle ((H2.out.alloc _ _).drop.drewN _) ⟨by rw [HS.out]; rfl, rfl⟩
end Go.Proofs.Ytikigghknbaleaa
