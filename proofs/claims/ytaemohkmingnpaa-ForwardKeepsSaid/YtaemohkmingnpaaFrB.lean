/- the references: whether a picture begins. -/
import Derived.Test.YtaemohkmingnpaaFrA
namespace Go.Proofs.Ytaemohkmingnpaa
open Go.RowKit
set_option linter.unusedSimpArgs false

theorem vpR_lt {b : List UInt8} {n s t : Int} (h : vpR b = (n, s, t, true)) : ∃ k : Nat, t = k ∧ k < b.length ∧ (s = 0 ∨ s = 1 ∧ n = 2 ∧ 2 < b.length ∨ s = 2 ∧ n = 2 ∧ 3 < b.length) := by
  have x1 : ∀ c, 0 ≤ vpX c := fun c => by unfold vpX; repeat' split <;> omega
  rcases b with _ | ⟨b0, _ | ⟨b1, _ | ⟨b2, r⟩⟩⟩
  · simp [vpR] at h
  · simp only [vpR] at h
    split at h <;> simp at h
  · have := x1 b1
    simp only [vpR] at h
    repeat' split at h
    all_goals (simp at h; try omega)
    obtain ⟨rfl, rfl, rfl⟩ := h
    exact ⟨1, rfl, by simp, .inl rfl⟩
  · have := x1 b1
    simp only [vpR] at h
    repeat' split at h
    all_goals (simp only [Prod.mk.injEq, decide_eq_true_eq, List.length_cons] at h; obtain ⟨rfl, rfl, rfl, h⟩ := h)
    · exact ⟨(2 + 2 + vpX b1).toNat, by omega, by simp only [List.length_cons]; omega, .inr (.inr ⟨rfl, rfl, by simp only [List.length_cons]; omega⟩)⟩
    · exact ⟨(2 + 1 + vpX b1).toNat, by omega, by simp only [List.length_cons]; omega, .inr (.inl ⟨rfl, rfl, by simp⟩)⟩
    · exact ⟨(2 + vpX b1).toNat, by omega, by simp only [List.length_cons]; omega, .inl rfl⟩
    · exact ⟨1, rfl, by simp, .inl rfl⟩
def lowB (b : List UInt8) (i : Int) : Bool := bits BinOp.and IntKind.u8 (b.getD i.toNat 0).toNat 1 == 0
def begS (b : List UInt8) : Bool × Bool := if (vpR b).2.2.2 && begB b then (true, lowB b (vpR b).2.2.1) else (false, false)
def two (x : Bool × Bool) : Value := .tuple #[.bool x.1, .bool x.2]
theorem begB_cons (c : UInt8) (r : List UInt8) : begB (c :: r) = (!(bits BinOp.and IntKind.u8 c.toNat 16 == 0) && !(bits BinOp.and IntKind.u8 c.toNat 7 != 0)) := by
  unfold begB
  rw [u8_cons]
  have h : ∀ n, n < 256 → (bits BinOp.and IntKind.u8 ((n : Nat) : Int) 23 == 16) = (!(bits BinOp.and IntKind.u8 ((n : Nat) : Int) 16 == 0) && !(bits BinOp.and IntKind.u8 ((n : Nat) : Int) 7 != 0)) := by decide +kernel
  exact h _ c.toNat_lt
theorem Byts.at' {I : Img} {M : List Res} {w : World} {g o k : Nat} {bs : List UInt8} (h : Byts I (some ⟨g, o, none⟩) bs) (hs : St I M w) (hk : k < bs.length) : w.cell? ⟨g, o + k, none⟩ = some (.int .u8 (bs.getD k 0).toNat) := by
  obtain ⟨g', o', e, hc⟩ := Byts.at h (by omega)
  cases e
  rw [hc M w hs k hk]
  simp [List.getD_eq_getElem?_getD, List.getElem?_eq_getElem hk]
set_option maxHeartbeats 1000000 in
theorem begR (I : Img) (M : List Res) (w : World) (A : Option Addr) (c : Nat) (b : List UInt8) (hst : St I M w) (hb : Byts I A b) (hl : b.length ≤ 140737488351232) :
    Calls Try.prog 19 #[.slice A b.length c] w fun e w' => e = .returned (two (begS b)) ∧ ∃ n, w' = w.drewN n := by
  have hcall := vp8r I M w A c b hst hb hl
  rcases hv : vpR b with ⟨n, s, t, ok⟩
  rw [hv] at hcall
  simp only [vpV] at hcall
  cases ok with
  | false =>
    have HB := Lib.hid (show begS b = (false, false) by simp [begS, hv])
    clear hv hst hb
    go_enter Try.func19, Try.ntmps19
    go_wp2_with (go_at_call 28; refine hcall.mono ?_; rintro e w' ⟨rfl, rfl⟩)
    go_returns
    exact ⟨ret_eq (by rw [HB.out]; rfl), 0, rfl⟩
  | true =>
    obtain ⟨k, rfl, hk, _⟩ := vpR_lt hv
    rcases b with _ | ⟨b0, r⟩
    · simp at hk
    have HV := Lib.hid hv
    obtain ⟨g, o, rfl, z0, hb1⟩ := hb.at0
    replace z0 := z0 M w hst
    have zk := hb.at' hst hk
    have hbg := begB_cons b0 r
    have HBG := Lib.hid hbg
    have hk' : (k : Int) < (b0 :: r).length := by omega
    have hk0 : (0 : Int) ≤ k := by omega
    clear hv hst hb hb1 hbg
    generalize hL : (b0 :: r) = L at *
    have HL := Lib.hid hL
    clear hL
    cases t1 : (bits BinOp.and IntKind.u8 (↑b0.toNat) 16 == 0) <;> cases t2 : (bits BinOp.and IntKind.u8 (↑b0.toNat) 7 != 0)
    all_goals
      go_enter Try.func19, Try.ntmps19
      go_wp2_with (go_at_call 28; refine hcall.mono ?_; rintro e w' ⟨rfl, rfl⟩)
      first
        | (go_returns; exact ⟨ret_eq (by simp only [begS, HV.out, HBG.out, two, t1, t2]; rfl), 0, rfl⟩)
        | (go_quiet (fail); go_wp2; go_returns; exact ⟨ret_eq (by simp [begS, HV.out, HBG.out, two, t1, t2, lowB, hk]), _, rfl⟩)
end Go.Proofs.Ytaemohkmingnpaa
