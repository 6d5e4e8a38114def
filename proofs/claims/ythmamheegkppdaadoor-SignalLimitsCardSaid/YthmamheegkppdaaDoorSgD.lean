/- rostrumref24.word, rostrumref24.Print, rostrumref01.SameTexts. -/
import Derived.Test.YthmamheegkppdaaDoorSgC
namespace Go.Proofs.YthmamheegkppdaaDoor
open Go.RowKit
set_option linter.unusedSimpArgs false

theorem take_any {p : UInt8 → Bool} (s : ByteArray) (k : Nat) (hk : k < s.size) : (s.data.toList.take (k + 1)).any p = ((s.data.toList.take k).any p || p s[k]) := by
  have h : k < s.data.toList.length := by simpa using hk
  rw [List.take_succ_eq_append_getElem h, List.any_append]
  simp
  rfl
theorem ofB_bad {s : ByteArray} {n lo hi k : Nat} (hk : k < s.size) (h : badB lo hi s[k] = true) : ofB s n lo hi = false := by
  have : s.data.toList.any (badB lo hi) = true := by
    rw [List.any_eq_true]
    exact ⟨s[k], List.getElem_mem (show k < s.data.toList.length by simpa using hk), h⟩
  unfold ofB
  rw [this]
  rfl
set_option maxHeartbeats 1000000 in
theorem wordR (s : ByteArray) (n lo hi : Nat) (w : World) (hs : s.size ≤ maxLen) : Calls Tryd.prog 21 #[.string s, .int .i64 n, .int .u8 lo, .int .u8 hi] w fun e w' => e = .returned (.bool (ofB s n lo hi)) ∧ w = w' := by
  unfold maxLen at hs
  go_enter Tryd.func21, Tryd.ntmps21
  go_wp2
  go_loop [9] (fun i => ∃ k : Nat, k ≤ s.size ∧ i = .int .i64 k ∧ Hid ((s.data.toList.take k).any (badB lo hi) = false)) (fun i => s.size - (intOf i).toNat)
  case atStart => exact ⟨0, Nat.zero_le _, rfl, Lib.hid (by simp)⟩
  case round =>
    obtain ⟨k, hk, rfl, HK⟩ := hrel
    by_cases hlt : k < s.size
    · by_cases h1 : s[k].toNat < lo
      · have h1' : (s[k].toNat : Int) < lo := by omega
        have HB := Lib.hid (ofB_bad (n := n) hlt (show badB lo hi s[k] = true by unfold badB; rw [decide_eq_true h1]; rfl))
        go_wp2
        go_ret
        exact ⟨ret_eq (congrArg Value.bool HB.out.symm), rfl⟩
      · have h1' : decide ((s[k].toNat : Int) < lo) = false := decide_eq_false (by omega)
        by_cases h2 : hi < s[k].toNat
        · have h2' : (hi : Int) < s[k].toNat := by omega
          have HB := Lib.hid (ofB_bad (n := n) hlt (show badB lo hi s[k] = true by unfold badB; rw [decide_eq_true h2, Bool.or_true]))
          go_wp2
          go_ret
          exact ⟨ret_eq (congrArg Value.bool HB.out.symm), rfl⟩
        · have h2' : (s[k].toNat : Int) ≤ hi := by omega
          have HB := Lib.hid (show (s.data.toList.take (k + 1)).any (badB lo hi) = false from by
            rw [take_any s k hlt, HK.out]
            unfold badB
            rw [decide_eq_false h1, decide_eq_false h2]
            rfl)
          go_wp2
          go_round
          case rel => exact ⟨k + 1, by omega, by go_num, HB⟩
          case measure => simp [intOf]; omega
    · have hka : s.data.toList.any (badB lo hi) = false := by
        have := HK.out
        rwa [List.take_of_length_le (by rw [Array.length_toList]; show s.size ≤ k; omega)] at this
      by_cases h1 : 1 ≤ s.size
      · by_cases h2 : s.size ≤ n
        · have h2' : (s.size : Int) ≤ n := by omega
          have HB := Lib.hid (show ofB s n lo hi = true by unfold ofB; rw [hka, decide_eq_true h1, decide_eq_true h2]; rfl)
          clear hka
          go_wp2
          go_ret
          exact ⟨ret_eq (congrArg Value.bool HB.out.symm), rfl⟩
        · have h2' : decide ((s.size : Int) ≤ n) = false := decide_eq_false (by omega)
          have HB := Lib.hid (show ofB s n lo hi = false by unfold ofB; rw [hka, decide_eq_false h2]; simp)
          clear hka
          go_wp2
          go_ret
          exact ⟨ret_eq (congrArg Value.bool HB.out.symm), rfl⟩
      · have h1' : decide (1 ≤ s.size) = false := decide_eq_false h1
        have h2' : decide ((1 : Int) ≤ s.size) = false := decide_eq_false (by omega)
        have HB := Lib.hid (show ofB s n lo hi = false by unfold ofB; rw [hka, h1']; simp)
        clear hka
        go_wp2
        go_ret
        exact ⟨ret_eq (congrArg Value.bool HB.out.symm), rfl⟩
end Go.Proofs.YthmamheegkppdaaDoor
