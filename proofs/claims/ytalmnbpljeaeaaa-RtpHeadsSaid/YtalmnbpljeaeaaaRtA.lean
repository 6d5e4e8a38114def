/- rtp.Head, rostrumref12.Head. -/
import Derived.Test.YtalmnbpljeaeaaaWr
namespace Go.Proofs.Ytalmnbpljeaeaaa
open Go.RowKit
set_option linter.unusedSimpArgs false

theorem and15 (c : UInt8) : bits BinOp.and IntKind.u8 (c.toNat : Int) 15 = (c.toNat : Int) % 16 := by
  have h : ∀ n, n < 256 → bits BinOp.and IntKind.u8 ((n : Nat) : Int) 15 = (n : Int) % 16 := by decide +kernel
  exact h _ c.toNat_lt
theorem or_i64 (q x : Nat) (hx : x < 256) (hq : q < 16777216) : bits BinOp.or IntKind.i64 ((q : Int) * 256) (x : Int) = ((q * 256 + x : Nat) : Int) := by
  have e1 : (BitVec.ofInt 64 ((q : Int) * 256)).toNat = q * 256 := by
    rw [show ((q : Int) * 256) = ((q * 256 : Nat) : Int) by omega, BitVec.ofInt_natCast, BitVec.toNat_ofNat]
    exact Nat.mod_eq_of_lt (by omega)
  have e2 : (BitVec.ofInt 64 (x : Int)).toNat = x := by
    rw [BitVec.ofInt_natCast, BitVec.toNat_ofNat]
    exact Nat.mod_eq_of_lt (by omega)
  show IntKind.i64.wrap ((BitVec.ofInt 64 ((q : Int) * 256) ||| BitVec.ofInt 64 (x : Int)).toNat : Int) = _
  have e3 : (q * 256 ||| x) = q * 256 + x := by
    have := Nat.two_pow_add_eq_or_of_lt (i := 8) (b := x) (by omega) q
    rw [show 2 ^ 8 * q = q * 256 by omega] at this
    exact this.symm
  rw [BitVec.toNat_or, e1, e2, e3, IntWalk.i64_in _ (by omega)]
theorem Byts.at' {I : Img} {M : List Res} {w : World} {g o k : Nat} {bs : List UInt8} (h : Byts I (some ⟨g, o, none⟩) bs) (hs : St I M w) (hk : k < bs.length) : w.cell? ⟨g, o + k, none⟩ = some (.int .u8 (bs.getD k 0).toNat) := by
  obtain ⟨g', o', e, hc⟩ := Byts.at h (by omega)
  cases e
  rw [hc M w hs k hk]
  simp [List.getD_eq_getElem?_getD, List.getElem?_eq_getElem hk]
def headS (b : List UInt8) : Int × Int :=
  if b.length < 12 ∨ (b.getD 0 0).toNat / 64 ≠ 2 then (0, 2)
  else if (bits BinOp.and IntKind.u8 ((b.getD 0 0).toNat : Int) 16 != 0) = true then
    if b.length < 16 + 4 * ((b.getD 0 0).toNat % 16) then (0, 2)
    else if b.length < 16 + 4 * ((b.getD 0 0).toNat % 16) + 4 * ((b.getD (14 + 4 * ((b.getD 0 0).toNat % 16)) 0).toNat * 256 + (b.getD (15 + 4 * ((b.getD 0 0).toNat % 16)) 0).toNat) then (0, 2)
    else (((16 + 4 * ((b.getD 0 0).toNat % 16) + 4 * ((b.getD (14 + 4 * ((b.getD 0 0).toNat % 16)) 0).toNat * 256 + (b.getD (15 + 4 * ((b.getD 0 0).toNat % 16)) 0).toNat) : Nat) : Int), 0)
  else if b.length < 12 + 4 * ((b.getD 0 0).toNat % 16) then (0, 2)
  else (((12 + 4 * ((b.getD 0 0).toNat % 16) : Nat) : Int), 0)
set_option maxHeartbeats 2000000 in
theorem headP (I : Img) (M : List Res) (w : World) (A : Option Addr) (c : Nat) (b : List UInt8) (hst : St I M w) (hb : Byts I A b) (hl : b.length ≤ 140737488351232) :
    Calls Try.prog 5 #[.slice A b.length c] w fun e w' => e = .returned (.tuple #[.int .i64 (headS b).1, .int .i64 (headS b).2]) ∧ ∃ n, w' = w.drewN n := by
  by_cases h12 : b.length < 12
  · have HE := Lib.hid (show headS b = (0, 2) by unfold headS; rw [if_pos (.inl h12)])
    clear hst hb
    have h12' : (b.length : Int) ≤ 11 := by omega
    go_enter Try.func5, Try.ntmps5
    go_wp2
    go_returns
    exact ⟨ret_eq (by rw [HE.out]; rfl), 0, rfl⟩
  · obtain ⟨g, o, rfl, _⟩ := Byts.at hb (by omega)
    obtain ⟨x, hx⟩ : ∃ x, x = b.getD 0 0 := ⟨_, rfl⟩
    have z0 := Byts.at' hb hst (k := 0) (by omega)
    rw [Nat.add_zero, ← hx] at z0
    have h12' : (12 : Int) ≤ b.length := by omega
    have hx255 := x.toNat_lt
    have a15 := and15 x
    have HST := Lib.hid hst
    have HBY := Lib.hid hb
    have hd : headS b = if x.toNat / 64 ≠ 2 then (0, 2)
      else if (bits BinOp.and IntKind.u8 (x.toNat : Int) 16 != 0) = true then
        if b.length < 16 + 4 * (x.toNat % 16) then (0, 2)
        else if b.length < 16 + 4 * (x.toNat % 16) + 4 * ((b.getD (14 + 4 * (x.toNat % 16)) 0).toNat * 256 + (b.getD (15 + 4 * (x.toNat % 16)) 0).toNat) then (0, 2)
        else (((16 + 4 * (x.toNat % 16) + 4 * ((b.getD (14 + 4 * (x.toNat % 16)) 0).toNat * 256 + (b.getD (15 + 4 * (x.toNat % 16)) 0).toNat) : Nat) : Int), 0)
      else if b.length < 12 + 4 * (x.toNat % 16) then (0, 2)
      else (((12 + 4 * (x.toNat % 16) : Nat) : Int), 0) := by
      unfold headS
      rw [← hx]
      by_cases h : x.toNat / 64 = 2
      · rw [if_neg (by omega : ¬ (b.length < 12 ∨ x.toNat / 64 ≠ 2)), if_neg (by omega : ¬ (x.toNat / 64 ≠ 2))]
      · rw [if_pos (.inr h), if_pos h]
    obtain ⟨m, hm⟩ : ∃ m : Nat, m = x.toNat % 16 := ⟨_, rfl⟩
    rw [← hm] at hd
    have a15' : bits BinOp.and IntKind.u8 (x.toNat : Int) 15 = (m : Int) := by rw [a15, hm]; rfl
    have hm15 : (m : Int) ≤ 15 := by omega
    have HD := Lib.hid hd
    clear hd hst hb hx a15 hm h12
    cases h6 : ((x.toNat : Int) / 64 != 2)
    · cases h16 : (bits BinOp.and IntKind.u8 (x.toNat : Int) 16 != 0)
      · have h6' : ¬ (x.toNat / 64 ≠ 2) := by simp at h6; omega
        by_cases hn : b.length < 12 + 4 * m
        · have hn' : (b.length : Int) < 12 + 4 * m := by omega
          have HE := Lib.hid (HD.out.trans (by rw [if_neg h6', if_neg (by rw [h16]; simp), if_pos hn]))
          clear hn h6'
          go_enter Try.func5, Try.ntmps5
          go_wp2
          go_returns
          exact ⟨ret_eq (by rw [HE.out]; rfl), 0, rfl⟩
        · have hn' : (12 : Int) + 4 * m ≤ b.length := by omega
          have HE := Lib.hid (HD.out.trans (by rw [if_neg h6', if_neg (by rw [h16]; simp), if_neg hn]))
          clear hn h6'
          go_enter Try.func5, Try.ntmps5
          go_wp2
          go_returns
          exact ⟨ret_eq (by rw [HE.out]; rfl), 0, rfl⟩
      · have h6' : ¬ (x.toNat / 64 ≠ 2) := by simp at h6; omega
        by_cases hn : b.length < 16 + 4 * m
        · have hn' : (b.length : Int) < 12 + 4 * m + 4 := by omega
          have HE := Lib.hid (HD.out.trans (by rw [if_neg h6', if_pos h16, if_pos hn]))
          clear hn h6'
          go_enter Try.func5, Try.ntmps5
          go_wp2
          go_returns
          exact ⟨ret_eq (by rw [HE.out]; rfl), 0, rfl⟩
        · have hn' : (12 : Int) + 4 * m + 4 ≤ b.length := by omega
          obtain ⟨i1, hi1⟩ : ∃ i1 : Nat, i1 = 14 + 4 * m := ⟨_, rfl⟩
          obtain ⟨i2, hi2⟩ : ∃ i2 : Nat, i2 = 15 + 4 * m := ⟨_, rfl⟩
          have z14 := Byts.at' HBY.out HST.out (k := i1) (by omega)
          have z15 := Byts.at' HBY.out HST.out (k := i2) (by omega)
          have e1 : IntKind.i64.wrap (12 + 4 * (m : Int) + 4 - 2) = (i1 : Int) := by rw [IntWalk.i64_in _ (by omega)]; omega
          have e2 : IntKind.i64.wrap (12 + 4 * (m : Int) + 4 - 1) = (i2 : Int) := by rw [IntWalk.i64_in _ (by omega)]; omega
          have l1 : i1 < b.length := by omega
          have l2 : i2 < b.length := by omega
          have l1' : (i1 : Int) < b.length := by omega
          have l2' : (i2 : Int) < b.length := by omega
          have HD2 := Lib.hid (HD.out.trans (by rw [if_neg h6', if_pos h16, if_neg hn, ← hi1, ← hi2]))
          obtain ⟨p, hp⟩ : ∃ p, p = (b.getD i1 0).toNat := ⟨_, rfl⟩
          obtain ⟨q, hq⟩ : ∃ q, q = (b.getD i2 0).toNat := ⟨_, rfl⟩
          rw [← hp, ← hq] at HD2
          rw [← hp] at z14
          rw [← hq] at z15
          have hp1 : (p : Int) ≤ 255 := by have := (b.getD i1 0).toNat_lt; omega
          have hq1 : (q : Int) ≤ 255 := by have := (b.getD i2 0).toNat_lt; omega
          have e3 := or_i64 p q (by omega) (by omega)
          clear hi1 hi2 hp hq hn h6' HD
          by_cases hz : b.length < 16 + 4 * m + 4 * (p * 256 + q)
          · have hz' : (b.length : Int) < 12 + 4 * m + 4 + 4 * (p * 256 + q) := by omega
            have HE := Lib.hid (HD2.out.trans (if_pos hz))
            clear hz
            go_enter Try.func5, Try.ntmps5
            go_wp2
            go_quiet (fail)
            go_wp2
            go_returns
            exact ⟨ret_eq (by rw [HE.out]; rfl), _, rfl⟩
          · have hz' : (12 : Int) + 4 * m + 4 + 4 * (p * 256 + q) ≤ b.length := by omega
            have HE := Lib.hid (show headS b = (12 + 4 * (m : Int) + 4 + 4 * (p * 256 + q), 0) from HD2.out.trans (by rw [if_neg hz]; exact Prod.ext (by show ((16 + 4 * m + 4 * (p * 256 + q) : Nat) : Int) = 12 + 4 * (m : Int) + 4 + 4 * (p * 256 + q); omega) rfl))
            clear hz
            go_enter Try.func5, Try.ntmps5
            go_wp2
            go_quiet (fail)
            go_wp2
            go_returns
            exact ⟨ret_eq (by rw [HE.out]; rfl), _, rfl⟩
    · have HE := Lib.hid (HD.out.trans (if_pos (by simp at h6; omega)))
      go_enter Try.func5, Try.ntmps5
      go_wp2
      go_returns
      exact ⟨ret_eq (by rw [HE.out]; rfl), 0, rfl⟩
set_option maxHeartbeats 2000000 in
theorem headR (I : Img) (M : List Res) (w : World) (A : Option Addr) (c : Nat) (b : List UInt8) (hst : St I M w) (hb : Byts I A b) (hl : b.length ≤ 140737488351232) :
    Calls Try.prog 6 #[.slice A b.length c] w fun e w' => e = .returned (.tuple #[.int .i64 (headS b).1, .int .i64 (headS b).2]) ∧ ∃ n, w' = w.drewN n := by
  by_cases h12 : b.length < 12
  · have HE := Lib.hid (show headS b = (0, 2) by unfold headS; rw [if_pos (.inl h12)])
    clear hst hb
    have h12' : (b.length : Int) ≤ 11 := by omega
    go_enter Try.func6, Try.ntmps6
    go_wp2
    go_returns
    exact ⟨ret_eq (by rw [HE.out]; rfl), 0, rfl⟩
  · obtain ⟨g, o, rfl, _⟩ := Byts.at hb (by omega)
    obtain ⟨x, hx⟩ : ∃ x, x = b.getD 0 0 := ⟨_, rfl⟩
    have z0 := Byts.at' hb hst (k := 0) (by omega)
    rw [Nat.add_zero, ← hx] at z0
    have h12' : (12 : Int) ≤ b.length := by omega
    have hx255 := x.toNat_lt
    have a15 : ((x.toNat : Int) % 16) = (x.toNat : Int) % 16 := rfl
    have HST := Lib.hid hst
    have HBY := Lib.hid hb
    have hd : headS b = if x.toNat / 64 ≠ 2 then (0, 2)
      else if (bits BinOp.and IntKind.u8 (x.toNat : Int) 16 != 0) = true then
        if b.length < 16 + 4 * (x.toNat % 16) then (0, 2)
        else if b.length < 16 + 4 * (x.toNat % 16) + 4 * ((b.getD (14 + 4 * (x.toNat % 16)) 0).toNat * 256 + (b.getD (15 + 4 * (x.toNat % 16)) 0).toNat) then (0, 2)
        else (((16 + 4 * (x.toNat % 16) + 4 * ((b.getD (14 + 4 * (x.toNat % 16)) 0).toNat * 256 + (b.getD (15 + 4 * (x.toNat % 16)) 0).toNat) : Nat) : Int), 0)
      else if b.length < 12 + 4 * (x.toNat % 16) then (0, 2)
      else (((12 + 4 * (x.toNat % 16) : Nat) : Int), 0) := by
      unfold headS
      rw [← hx]
      by_cases h : x.toNat / 64 = 2
      · rw [if_neg (by omega : ¬ (b.length < 12 ∨ x.toNat / 64 ≠ 2)), if_neg (by omega : ¬ (x.toNat / 64 ≠ 2))]
      · rw [if_pos (.inr h), if_pos h]
    obtain ⟨m, hm⟩ : ∃ m : Nat, m = x.toNat % 16 := ⟨_, rfl⟩
    rw [← hm] at hd
    have a15' : (x.toNat : Int) % 16 = (m : Int) := by rw [hm]; rfl
    have hm15 : (m : Int) ≤ 15 := by omega
    have HD := Lib.hid hd
    clear hd hst hb hx a15 hm h12
    by_cases h6 : 128 ≤ (x.toNat : Int) ∧ (x.toNat : Int) ≤ 191
    · obtain ⟨h6a, h6b⟩ := h6
      cases h16 : (bits BinOp.and IntKind.u8 (x.toNat : Int) 16 != 0)
      · have h6' : ¬ (x.toNat / 64 ≠ 2) := by omega
        by_cases hn : b.length < 12 + 4 * m
        · have hn' : (b.length : Int) < 12 + 4 * m := by omega
          have HE := Lib.hid (HD.out.trans (by rw [if_neg h6', if_neg (by rw [h16]; simp), if_pos hn]))
          clear hn h6'
          go_enter Try.func6, Try.ntmps6
          go_wp2
          go_returns
          exact ⟨ret_eq (by rw [HE.out]; rfl), 0, rfl⟩
        · have hn' : (12 : Int) + 4 * m ≤ b.length := by omega
          have HE := Lib.hid (HD.out.trans (by rw [if_neg h6', if_neg (by rw [h16]; simp), if_neg hn]))
          clear hn h6'
          go_enter Try.func6, Try.ntmps6
          go_wp2
          go_returns
          exact ⟨ret_eq (by rw [HE.out]; rfl), 0, rfl⟩
      · have h6' : ¬ (x.toNat / 64 ≠ 2) := by omega
        by_cases hn : b.length < 16 + 4 * m
        · have hn' : (b.length : Int) < 12 + 4 * m + 4 := by omega
          have HE := Lib.hid (HD.out.trans (by rw [if_neg h6', if_pos h16, if_pos hn]))
          clear hn h6'
          go_enter Try.func6, Try.ntmps6
          go_wp2
          go_returns
          exact ⟨ret_eq (by rw [HE.out]; rfl), 0, rfl⟩
        · have hn' : (12 : Int) + 4 * m + 4 ≤ b.length := by omega
          obtain ⟨i1, hi1⟩ : ∃ i1 : Nat, i1 = 14 + 4 * m := ⟨_, rfl⟩
          obtain ⟨i2, hi2⟩ : ∃ i2 : Nat, i2 = 15 + 4 * m := ⟨_, rfl⟩
          have z14 := Byts.at' HBY.out HST.out (k := i1) (by omega)
          have z15 := Byts.at' HBY.out HST.out (k := i2) (by omega)
          have e1 : IntKind.i64.wrap (12 + 4 * (m : Int) + 2) = (i1 : Int) := by rw [IntWalk.i64_in _ (by omega)]; omega
          have e2 : IntKind.i64.wrap (12 + 4 * (m : Int) + 3) = (i2 : Int) := by rw [IntWalk.i64_in _ (by omega)]; omega
          have l1 : i1 < b.length := by omega
          have l2 : i2 < b.length := by omega
          have l1' : (i1 : Int) < b.length := by omega
          have l2' : (i2 : Int) < b.length := by omega
          have HD2 := Lib.hid (HD.out.trans (by rw [if_neg h6', if_pos h16, if_neg hn, ← hi1, ← hi2]))
          obtain ⟨p, hp⟩ : ∃ p, p = (b.getD i1 0).toNat := ⟨_, rfl⟩
          obtain ⟨q, hq⟩ : ∃ q, q = (b.getD i2 0).toNat := ⟨_, rfl⟩
          rw [← hp, ← hq] at HD2
          rw [← hp] at z14
          rw [← hq] at z15
          have hp1 : (p : Int) ≤ 255 := by have := (b.getD i1 0).toNat_lt; omega
          have hq1 : (q : Int) ≤ 255 := by have := (b.getD i2 0).toNat_lt; omega
          have e3 := or_i64 p q (by omega) (by omega)
          clear hi1 hi2 hp hq hn h6' HD
          by_cases hz : b.length < 16 + 4 * m + 4 * (p * 256 + q)
          · have hz' : (b.length : Int) < 12 + 4 * m + 4 + 4 * (p * 256 + q) := by omega
            have HE := Lib.hid (HD2.out.trans (if_pos hz))
            clear hz
            go_enter Try.func6, Try.ntmps6
            go_wp2
            go_quiet (fail)
            go_wp2
            go_returns
            exact ⟨ret_eq (by rw [HE.out]; rfl), _, rfl⟩
          · have hz' : (12 : Int) + 4 * m + 4 + 4 * (p * 256 + q) ≤ b.length := by omega
            have HE := Lib.hid (show headS b = (12 + 4 * (m : Int) + 4 + 4 * (p * 256 + q), 0) from HD2.out.trans (by rw [if_neg hz]; exact Prod.ext (by show ((16 + 4 * m + 4 * (p * 256 + q) : Nat) : Int) = 12 + 4 * (m : Int) + 4 + 4 * (p * 256 + q); omega) rfl))
            clear hz
            go_enter Try.func6, Try.ntmps6
            go_wp2
            go_quiet (fail)
            go_wp2
            go_returns
            exact ⟨ret_eq (by rw [HE.out]; rfl), _, rfl⟩
    · have HE := Lib.hid (HD.out.trans (if_pos (by omega)))
      have h7 : (x.toNat : Int) ≤ 127 ∨ (128 ≤ (x.toNat : Int) ∧ 192 ≤ (x.toNat : Int)) := by omega
      clear h6
      rcases h7 with h7 | ⟨h7, h8⟩
      all_goals
        go_enter Try.func6, Try.ntmps6
        go_wp2
        go_returns
        exact ⟨ret_eq (by rw [HE.out]; rfl), 0, rfl⟩
end Go.Proofs.Ytalmnbpljeaeaaa
