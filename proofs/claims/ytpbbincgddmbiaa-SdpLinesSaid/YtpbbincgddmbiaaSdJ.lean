/- SdpLimits; SdpLines. -/
import Derived.Test.YtpbbincgddmbiaaSdI
namespace Go.Proofs.Ytpbbincgddmbiaa
open Go.RowKit
set_option linter.unusedSimpArgs false

set_option maxRecDepth 8000 in
set_option maxHeartbeats 8000000 in
theorem law4 (I : Img) (M : List Res) (w : World) (m a b : Int) (hst : St I M w) (hm : I.cell? ⟨0, 0, none⟩ = some (.int .i64 m)) (ha0 : 0 ≤ a) (_ : a ≤ 255) (hb0 : 0 ≤ b) (_ : b ≤ 255) :
    Calls Try.prog 4 #[.int .u8 a, .int .u8 b] w (Yes I M) := by
  have HA := Lib.hid (awakeP I M w m hst hm)
  have HM := Lib.hid hm
  obtain ⟨p, hp⟩ : ∃ p : Nat, (p : Int) = a.tmod 12 := ⟨(a.tmod 12).toNat, Int.toNat_of_nonneg (Int.tmod_nonneg _ ha0)⟩
  obtain ⟨n, hn⟩ : ∃ n : Nat, (n : Int) = b.tmod 70 := ⟨(b.tmod 70).toNat, Int.toNat_of_nonneg (Int.tmod_nonneg _ hb0)⟩
  have hp1 : p < 12 := by have := Int.tmod_lt_of_pos a (b := 12) (by decide); omega
  have hn1 : n < 70 := by have := Int.tmod_lt_of_pos b (b := 70) (by decide); omega
  have hpe := hp.symm
  have hne := hn.symm
  clear hst hm hp hn
  go_enter Try.func4, Try.ntmps4
  go_upto_region 6 with (go_at_call 8; refine HA.out.mono ?_; clear HA; rintro e w2 ⟨_, _, M2, rfl, hle, hs2, rfl, hM⟩; rw [hM] at hs2; have HS := Lib.hid (hs2.less hle); clear hs2 hle hM M2)
  go_loop [7, 20] (fun sv iv => ∃ (k : Nat) (t : ByteArray), k ≤ p ∧ iv = .int .i64 k ∧ sv = .string t ∧ t.size = 22 + k * 5 ∧ Hid (t.data.toList = headL ++ rep k [109, 61, 120, 13, 10])) (fun _ iv => p - (intOf iv).toNat)
  case atStart => exact ⟨0, ⟨#[118, 61, 48, 13, 10, 111, 61, 120, 13, 10, 115, 61, 45, 13, 10, 116, 61, 48, 32, 48, 13, 10]⟩, by omega, rfl, rfl, rfl, Lib.hid rfl⟩
  case round =>
    obtain ⟨k, t, hk, rfl, rfl, htz, ht⟩ := hrel
    by_cases hkl : k < p
    · have HT := Lib.hid (show (t ++ (⟨#[109, 61, 120, 13, 10]⟩ : ByteArray)).data.toList = headL ++ rep (k + 1) [109, 61, 120, 13, 10] by rw [← rep_snoc, ← List.append_assoc, ← ht.out]; simp [ByteArray.data_append])
      clear ht
      go_wp2
      go_round
      case rel => exact ⟨k + 1, t ++ ⟨#[109, 61, 120, 13, 10]⟩, by omega, by go_num, rfl, by rw [ByteArray.size_append, htz]; show _ + 5 = _; omega, HT⟩
      case measure => simp [intOf]; omega
    · have hke : k = p := by omega
      subst hke
      go_upto_region 10 with fail
      clear hkl
      go_loop [7, 26] (fun sv iv => ∃ (j : Nat) (u : ByteArray), j ≤ n ∧ iv = .int .i64 j ∧ sv = .string u ∧ u.size = 22 + k * 5 + j * 5 ∧ Hid (u.data.toList = headL ++ rep k [109, 61, 120, 13, 10] ++ rep j [97, 61, 98, 13, 10])) (fun _ iv => n - (intOf iv).toNat)
      case atStart => exact ⟨0, t, by omega, rfl, rfl, by omega, Lib.hid (by rw [ht.out]; simp [rep])⟩
      case round =>
        obtain ⟨j, u, hj, rfl, rfl, huz, hu⟩ := hrel
        by_cases hjl : j < n
        · have HT := Lib.hid (show (u ++ (⟨#[97, 61, 98, 13, 10]⟩ : ByteArray)).data.toList = headL ++ rep k [109, 61, 120, 13, 10] ++ rep (j + 1) [97, 61, 98, 13, 10] by rw [← rep_snoc, ← List.append_assoc, ← hu.out]; simp [ByteArray.data_append])
          clear hu
          go_wp2
          go_round
          case rel => exact ⟨j + 1, u ++ ⟨#[97, 61, 98, 13, 10]⟩, by omega, by go_num, rfl, by rw [ByteArray.size_append, huz]; show _ + 5 = _; omega, HT⟩
          case measure => simp [intOf]; omega
        · have hje : j = n := by omega
          subst hje
          have hlim := limits_law k j hp1 hn1
          have hul : u.data.toList = limL k j := by rw [hu.out]; unfold limL; rw [List.append_assoc]
          have hc := parseP I M _ u m HS.out HM.out (by rw [huz]; unfold maxLen; omega)
          rw [hul] at hc
          clear hu hul ht hjl
          by_cases h8 : 8 < k
          · rw [if_pos h8] at hlim
            rw [hlim] at hc
            have HC := Lib.hid hc
            have h8' : (8 : Int) < k := by omega
            clear hc hlim h8
            go_wp2_with (go_at_call 10; refine HC.out.mono ?_; clear HC; rintro e w3 ⟨_, _, _, rfl, _, hs3, rfl, vA, vP, pv, hpv, rfl, rfl⟩; obtain ⟨aP, cP, rfl⟩ := own_form (show World.ownsRow _ 0 66 3 vP _ _ from hs3.at 0 rfl); obtain ⟨aA, cA, rfl⟩ := own_form (show World.ownsRow _ 0 49 2 vA _ _ from hs3.at 1 rfl); have HS3 := Lib.hid hs3; clear hs3 hpv; dsimp only [head5, noSs])
            go_returns
            exact Ret.mk (.refl I) ((St.dropAll _ HS3.out.drop.drop).grow _) ⟨rfl, rfl⟩
          have h8' : (k : Int) ≤ 8 := by omega
          rw [if_neg h8] at hlim
          by_cases h64 : 64 < j
          · rw [if_pos h64] at hlim
            rw [hlim] at hc
            have HC := Lib.hid hc
            have h64' : (64 : Int) < j := by omega
            have hat : ((k : Int) + 69 == 4 + (k : Int) + 65) = true := by simp; omega
            clear hc hlim h8 h64
            go_wp2_with (go_at_call 10; refine HC.out.mono ?_; clear HC; rintro e w3 ⟨_, _, _, rfl, _, hs3, rfl, vA, vP, pv, hpv, rfl, rfl⟩; obtain ⟨aP, cP, rfl⟩ := own_form (show World.ownsRow _ 0 66 3 vP _ _ from hs3.at 0 rfl); obtain ⟨aA, cA, rfl⟩ := own_form (show World.ownsRow _ 0 49 2 vA _ _ from hs3.at 1 rfl); have HS3 := Lib.hid hs3; clear hs3 hpv; dsimp only [head5, noSs])
            go_returns
            exact Ret.mk (.refl I) ((St.dropAll _ HS3.out.drop.drop).grow _) ⟨by first | rfl | (rw [hat]), rfl⟩
          · rw [if_neg h64] at hlim
            obtain ⟨x, hx, hxl⟩ := hlim
            rw [hx] at hc
            have HC := Lib.hid hc
            have h64' : (j : Int) ≤ 64 := by omega
            clear hc hx h8 h64
            go_wp2_with (go_at_call 10; refine HC.out.mono ?_; clear HC; rintro e w3 ⟨_, _, _, rfl, _, hs3, rfl, vA, vP, pv, hpv, rfl, rfl⟩; have hpl : pv.length = k := (by rw [← hxl, ← hpv]; simp [partsOf]); obtain ⟨aP, cP, rfl⟩ := own_form (show World.ownsRow _ 0 66 3 vP _ _ from hs3.at 0 rfl); obtain ⟨aA, cA, rfl⟩ := own_form (show World.ownsRow _ 0 49 2 vA _ _ from hs3.at 1 rfl); have HS3 := Lib.hid hs3; clear hs3 hpv; rw [hpl]; clear hpl; dsimp only [head5])
            go_returns
            exact Ret.mk (.refl I) ((St.dropAll _ HS3.out.drop.drop).grow _) ⟨rfl, rfl⟩
set_option maxRecDepth 8000 in
set_option maxHeartbeats 8000000 in
theorem law5 (I : Img) (M : List Res) (w : World) (m a : Int) (b : ByteArray) (hst : St I M w) (hm : I.cell? ⟨0, 0, none⟩ = some (.int .i64 m)) (ha0 : 0 ≤ a) (_ : a ≤ 255) (_ : b.size ≤ maxLen) :
    Calls Try.prog 5 #[.int .u8 a, .string b] w (Yes I M) := by
  have HA := Lib.hid (awakeP I M w m hst hm)
  have HM := Lib.hid hm
  obtain ⟨n, hn⟩ : ∃ n : Nat, (n : Int) = a.tmod 60 := ⟨(a.tmod 60).toNat, Int.toNat_of_nonneg (Int.tmod_nonneg _ ha0)⟩
  have hn1 : n < 60 := by have := Int.tmod_lt_of_pos a (b := 60) (by decide); omega
  have hne := hn.symm
  clear hst hm hn
  go_enter Try.func5, Try.ntmps5
  by_cases h3 : 3000 < b.size
  · have h3' : (3000 : Int) < b.size := by omega
    clear h3
    go_wp2_with (go_at_call 8; refine HA.out.mono ?_; clear HA; rintro e w2 ⟨_, _, M2, rfl, hle, hs2, rfl, hM⟩; rw [hM] at hs2; have HS := Lib.hid (hs2.less hle); clear hs2 hle hM M2)
    go_returns
    exact Ret.mk (.refl I) HS.out ⟨rfl, rfl⟩
  have h3' : (b.size : Int) ≤ 3000 := by omega
  clear h3
  go_upto_region 7 with (go_at_call 8; refine HA.out.mono ?_; clear HA; rintro e w2 ⟨_, _, M2, rfl, hle, hs2, rfl, hM⟩; rw [hM] at hs2; have HS := Lib.hid (hs2.less hle); clear hs2 hle hM M2)
  go_loop [5, 19] (fun sv iv => ∃ (k : Nat) (t : ByteArray), k ≤ n ∧ iv = .int .i64 k ∧ sv = .string t ∧ t.size = 22 + k * 7 ∧ Hid (t.data.toList = headL ++ rep k [97, 61, 98, 58, 99, 13, 10])) (fun _ iv => n - (intOf iv).toNat)
  case atStart => exact ⟨0, ⟨#[118, 61, 48, 13, 10, 111, 61, 120, 13, 10, 115, 61, 45, 13, 10, 116, 61, 48, 32, 48, 13, 10]⟩, by omega, rfl, rfl, rfl, Lib.hid rfl⟩
  case round =>
    obtain ⟨k, t, hk, rfl, rfl, htz, ht⟩ := hrel
    by_cases hkl : k < n
    · have HT := Lib.hid (show (t ++ (⟨#[97, 61, 98, 58, 99, 13, 10]⟩ : ByteArray)).data.toList = headL ++ rep (k + 1) [97, 61, 98, 58, 99, 13, 10] by rw [← rep_snoc, ← List.append_assoc, ← ht.out]; simp [ByteArray.data_append])
      clear ht
      go_wp2
      go_round
      case rel => exact ⟨k + 1, t ++ ⟨#[97, 61, 98, 58, 99, 13, 10]⟩, by omega, by go_num, rfl, by rw [ByteArray.size_append, htz]; show _ + 7 = _; omega, HT⟩
      case measure => simp [intOf]; omega
    · have hke : k = n := by omega
      subst hke
      go_upto_region 11 with fail
      clear hkl
      go_loopw [24] (fun iv wr => ∃ i : Nat, i ≤ 3 ∧ iv = .int .i64 i ∧ Hid (St I M wr)) (fun iv _ => 3 - (intOf iv).toNat)
      case atStart => exact ⟨0, by omega, rfl, HS⟩
      case round =>
        obtain ⟨i, hi, rfl, HSr⟩ := hrel
        clear HS
        by_cases hil : i < 3
        rotate_left
        · have hie : i = 3 := by omega
          subst hie
          go_wp2
          go_returns
          exact Ret.mk (.refl I) HSr.out ⟨rfl, rfl⟩
        have hi3 : i = 0 ∨ i = 1 ∨ i = 2 := by omega
        clear hi hil
        have hat : (((k : Int) + 5) != 5 + (k : Int)) = false := by simp; omega
        have hat2 : (((k : Int) + 5) != (k : Int) + 5) = false := by simp
        rcases hi3 with rfl | rfl | rfl
        · have hul : ((t ++ (⟨#[120, 61, 49, 13, 10]⟩ : ByteArray)) ++ b).data.toList = linL k 0 b.data.toList := by
            unfold linL badL
            simp [ByteArray.data_append, ht.out]
          have huz : ((t ++ (⟨#[120, 61, 49, 13, 10]⟩ : ByteArray)) ++ b).size = 22 + k * 7 + 5 + b.size := by
            rw [ByteArray.size_append, ByteArray.size_append, htz]
            rfl
          have hsr := HSr.out.grow (.cells #[.string ⟨#[120, 61, 49, 13, 10]⟩, .string ⟨#[97, 61, 13, 10]⟩, .string ⟨#[97, 61, 98, 58, 13, 10]⟩] 9)
          have hc := parseP I M _ _ m hsr HM.out (by rw [huz]; unfold maxLen; omega)
          rw [hul, lines_law k 0 b.data.toList hn1 (by rw [Array.length_toList]; show b.size ≤ 3000; omega)] at hc
          have HC := Lib.hid hc
          have hu1 : (t ++ (⟨#[120, 61, 49, 13, 10]⟩ : ByteArray)).size = 22 + k * 7 + 5 := by
            rw [ByteArray.size_append, htz]
            rfl
          clear hc hul hsr
          go_wp2_with (go_at_call 10; refine HC.out.mono ?_; clear HC; rintro e w3 ⟨_, _, _, rfl, _, hs3, rfl, vA, vP, pv, hpv, rfl, rfl⟩; obtain ⟨aP, cP, rfl⟩ := own_form (show World.ownsRow _ 0 66 3 vP _ _ from hs3.at 0 rfl); obtain ⟨aA, cA, rfl⟩ := own_form (show World.ownsRow _ 0 49 2 vA _ _ from hs3.at 1 rfl); have HS3 := Lib.hid hs3; clear hs3 hpv; dsimp only [head5, noSs])
          go_roundw
          case rel => exact ⟨1, by omega, by go_num, Lib.hid ((St.dropAll _ HS3.out.drop.drop).grow _)⟩
          case measure => simp [intOf]
        · have hul : ((t ++ (⟨#[97, 61, 13, 10]⟩ : ByteArray)) ++ b).data.toList = linL k 1 b.data.toList := by
            unfold linL badL
            simp [ByteArray.data_append, ht.out]
          have huz : ((t ++ (⟨#[97, 61, 13, 10]⟩ : ByteArray)) ++ b).size = 22 + k * 7 + 4 + b.size := by
            rw [ByteArray.size_append, ByteArray.size_append, htz]
            rfl
          have hsr := HSr.out.grow (.cells #[.string ⟨#[120, 61, 49, 13, 10]⟩, .string ⟨#[97, 61, 13, 10]⟩, .string ⟨#[97, 61, 98, 58, 13, 10]⟩] 9)
          have hc := parseP I M _ _ m hsr HM.out (by rw [huz]; unfold maxLen; omega)
          rw [hul, lines_law k 1 b.data.toList hn1 (by rw [Array.length_toList]; show b.size ≤ 3000; omega)] at hc
          have HC := Lib.hid hc
          have hu1 : (t ++ (⟨#[97, 61, 13, 10]⟩ : ByteArray)).size = 22 + k * 7 + 4 := by
            rw [ByteArray.size_append, htz]
            rfl
          clear hc hul hsr
          go_wp2_with (go_at_call 10; refine HC.out.mono ?_; clear HC; rintro e w3 ⟨_, _, _, rfl, _, hs3, rfl, vA, vP, pv, hpv, rfl, rfl⟩; obtain ⟨aP, cP, rfl⟩ := own_form (show World.ownsRow _ 0 66 3 vP _ _ from hs3.at 0 rfl); obtain ⟨aA, cA, rfl⟩ := own_form (show World.ownsRow _ 0 49 2 vA _ _ from hs3.at 1 rfl); have HS3 := Lib.hid hs3; clear hs3 hpv; dsimp only [head5, noSs])
          go_roundw
          case rel => exact ⟨2, by omega, by go_num, Lib.hid ((St.dropAll _ HS3.out.drop.drop).grow _)⟩
          case measure => simp [intOf]
        · have hul : ((t ++ (⟨#[97, 61, 98, 58, 13, 10]⟩ : ByteArray)) ++ b).data.toList = linL k 2 b.data.toList := by
            unfold linL badL
            simp [ByteArray.data_append, ht.out]
          have huz : ((t ++ (⟨#[97, 61, 98, 58, 13, 10]⟩ : ByteArray)) ++ b).size = 22 + k * 7 + 6 + b.size := by
            rw [ByteArray.size_append, ByteArray.size_append, htz]
            rfl
          have hsr := HSr.out.grow (.cells #[.string ⟨#[120, 61, 49, 13, 10]⟩, .string ⟨#[97, 61, 13, 10]⟩, .string ⟨#[97, 61, 98, 58, 13, 10]⟩] 9)
          have hc := parseP I M _ _ m hsr HM.out (by rw [huz]; unfold maxLen; omega)
          rw [hul, lines_law k 2 b.data.toList hn1 (by rw [Array.length_toList]; show b.size ≤ 3000; omega)] at hc
          have HC := Lib.hid hc
          have hu1 : (t ++ (⟨#[97, 61, 98, 58, 13, 10]⟩ : ByteArray)).size = 22 + k * 7 + 6 := by
            rw [ByteArray.size_append, htz]
            rfl
          clear hc hul hsr
          go_wp2_with (go_at_call 10; refine HC.out.mono ?_; clear HC; rintro e w3 ⟨_, _, _, rfl, _, hs3, rfl, vA, vP, pv, hpv, rfl, rfl⟩; obtain ⟨aP, cP, rfl⟩ := own_form (show World.ownsRow _ 0 66 3 vP _ _ from hs3.at 0 rfl); obtain ⟨aA, cA, rfl⟩ := own_form (show World.ownsRow _ 0 49 2 vA _ _ from hs3.at 1 rfl); have HS3 := Lib.hid hs3; clear hs3 hpv; dsimp only [head5, noSs])
          go_roundw
          case rel => exact ⟨3, by omega, by go_num, Lib.hid ((St.dropAll _ HS3.out.drop.drop).grow _)⟩
          case measure => simp [intOf]
end Go.Proofs.Ytpbbincgddmbiaa
