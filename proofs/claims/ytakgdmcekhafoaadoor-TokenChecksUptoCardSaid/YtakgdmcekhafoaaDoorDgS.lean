/- rostrumref01.ReadDigits. -/
import Derived.Test.YtakgdmcekhafoaaDoorNuS
namespace Go.Proofs.YtakgdmcekhafoaaDoor.NuS
open Go.RowKit
set_option linter.unusedSimpArgs false

def readV (most : Nat) (l : List UInt8) : Value := match readR most l with
  | some n => .tuple #[.int .u64 n, .bool true]
  | none => .tuple #[.int .u64 0, .bool false]
theorem readV_none {most : Nat} {l : List UInt8} (h : readR most l = none) : readV most l = .tuple #[.int .u64 0, .bool false] := by unfold readV; rw [h]
theorem readV_some {most n : Nat} {l : List UInt8} (h : readR most l = some n) : readV most l = .tuple #[.int .u64 n, .bool true] := by unfold readV; rw [h]
theorem take_dig (s : ByteArray) (k : Nat) (hk : k < s.size) : s.data.toList.take (k + 1) = s.data.toList.take k ++ [s[k]] := by
  have h : k < s.data.toList.length := by simpa using hk
  rw [List.take_succ_eq_append_getElem h]
  rfl
theorem valD_take (l : List UInt8) (k : Nat) : valD (l.take k) ≤ valD l := by
  have h : valD l = (l.drop k).foldl (fun n b => 10 * n + (b.toNat - 48)) (valD (l.take k)) := by
    unfold valD
    rw [← List.foldl_append, List.take_append_drop]
  rw [h]
  exact fold_mono _ _
theorem read_bad {s : ByteArray} {most k : Nat} (hk : k < s.size) (h : ¬ (48 ≤ s[k].toNat ∧ s[k].toNat ≤ 57)) : readR most (ls s) = none :=
  readR_none (fun n _ e => by
    have hm : s[k] ∈ ls s := List.getElem_mem (show k < s.data.toList.length by simpa using hk)
    rw [e] at hm
    exact h (dec_digits n _ hm))
theorem read_over {s : ByteArray} {most k : Nat} (h : most < valD ((ls s).take k)) : readR most (ls s) = none :=
  readR_none (fun n hn e => by
    have h1 := valD_take (ls s) k
    have h2 : valD (ls s) = n := by rw [e, valD_dec]
    omega)
theorem read_long {s : ByteArray} {most : Nat} (hm : most ≤ 4611686018427387904) (h : 20 < s.size) : readR most (ls s) = none :=
  readR_none (fun n hn e => by
    have h1 := dec_len 20 n (by decide) (by omega)
    rw [← e, ls_len] at h1
    omega)
theorem read_empty {s : ByteArray} {most : Nat} (h : s.size = 0) : readR most (ls s) = none :=
  readR_none (fun n _ e => by
    have h1 := dec_pos n
    rw [← e, ls_len] at h1
    omega)
theorem read_nought {s : ByteArray} {most : Nat} (h : 1 < s.size) (h0 : s[0] = 48) : readR most (ls s) = none :=
  readR_none (fun n _ e => by
    have hc : (ls s)[0]? = some 48 := by
      rw [List.getElem?_eq_getElem (show 0 < (ls s).length by rw [ls_len]; omega)]
      exact congrArg some h0
    by_cases hn : n = 0
    · have h1 := congrArg List.length e
      rw [hn, dec_small (by decide), ls_len] at h1
      simp at h1
      omega
    · obtain ⟨b, r, e2, hb⟩ := dec_head n hn
      rw [e, e2] at hc
      simp at hc
      rw [hc] at hb
      exact hb rfl)
theorem read_good {s : ByteArray} {most : Nat} (h0 : 0 < s.size) (hd : ∀ b ∈ ls s, 48 ≤ b.toNat ∧ b.toNat ≤ 57) (hh : s.size = 1 ∨ ¬ s[0] = 48) (hm : valD (ls s) ≤ most) : readR most (ls s) = some (valD (ls s)) := by
  have hne : ls s ≠ [] := fun e => by
    have := ls_len s
    rw [e] at this
    simp at this
    omega
  refine readR_some.2 ⟨canon (ls s) hne hd ?_, hm⟩
  rcases hh with h | h
  · exact .inl (by rw [ls_len]; exact h)
  · refine .inr ?_
    have hc : (ls s)[0]'(by rw [ls_len]; exact h0) = s[0] := rfl
    cases e : ls s with
    | nil => exact absurd e hne
    | cons b r =>
      refine ⟨b, r, rfl, fun hb => h ?_⟩
      have h3 : (ls s)[0]? = some b := by rw [e]; rfl
      rw [List.getElem?_eq_getElem (by rw [ls_len]; exact h0), hc] at h3
      injection h3 with h3
      rw [h3]
      exact UInt8.toNat_inj.1 hb
theorem over_test {v most d : Nat} (h1 : 48 ≤ d) (h2 : d ≤ 57) (h3 : most < d - 48) (h4 : v ≤ most) : decide (IntKind.u64.wrap ((IntKind.u64.wrap ((most : Int) - ((d : Int) - 48))).tdiv 10) < (v : Int)) = false := by
  have e1 : IntKind.u64.wrap ((most : Int) - ((d : Int) - 48)) = most - (d - 48) + 18446744073709551616 := by
    rw [show ∀ x : Int, IntKind.u64.wrap x = x % 18446744073709551616 from fun x => by simp only [IntKind.wrap, IntKind.signed, IntKind.bits]; rfl]
    omega
  rw [e1, Int.tdiv_eq_ediv_of_nonneg (by omega)]
  have e2 : IntKind.u64.wrap (((most : Int) - (d - 48) + 18446744073709551616) / 10) = ((most : Int) - (d - 48) + 18446744073709551616) / 10 := by
    rw [show ∀ x : Int, IntKind.u64.wrap x = x % 18446744073709551616 from fun x => by simp only [IntKind.wrap, IntKind.signed, IntKind.bits]; rfl]
    omega
  rw [e2]
  exact decide_eq_false (by omega)
set_option maxRecDepth 8000 in
set_option maxHeartbeats 2000000 in
theorem readP (s : ByteArray) (most : Nat) (w : World) (hs : s.size ≤ maxLen) (hmost : most ≤ 4611686018427387904) :
    Calls Tryd.prog 22 #[.string s, .int .u64 most] w fun e w' => e = .returned (readV most (ls s)) ∧ w = w' := by
  unfold maxLen at hs
  by_cases h1 : s.size = 0
  · have HE := Lib.hid (read_empty (most := most) h1)
    have h1' : (s.size : Int) < 1 := by omega
    clear h1
    go_enter Tryd.func22, Tryd.ntmps22
    go_wp2; go_ret2; exact ⟨congrArg Ending.returned (readV_none HE.out).symm, rfl⟩
  have h1' : (1 : Int) ≤ s.size := by omega
  by_cases h2 : 20 < s.size
  · have HE := Lib.hid (read_long hmost h2)
    have h2' : (20 : Int) < s.size := by omega
    have h3' : decide ((s.size : Int) < 1) = false := decide_eq_false (by omega)
    clear h1 h2
    go_enter Tryd.func22, Tryd.ntmps22
    go_wp2; go_ret2; exact ⟨congrArg Ending.returned (readV_none HE.out).symm, rfl⟩
  have h2' : (s.size : Int) ≤ 20 := by omega
  have d1 : decide ((s.size : Int) < 1) = false := decide_eq_false (by omega)
  have d2 : decide ((20 : Int) < s.size) = false := decide_eq_false (by omega)
  have h0 : 0 < s.size := by omega
  by_cases h3 : 1 < s.size ∧ s[0] = 48
  · have HE := Lib.hid (read_nought (most := most) h3.1 h3.2)
    have h3' : (1 : Int) < s.size := by omega
    have h4' : (s[0].toNat : Int) = 48 := by rw [h3.2]; rfl
    clear h1 h2 h3
    go_enter Tryd.func22, Tryd.ntmps22
    go_wp2; go_ret2; exact ⟨congrArg Ending.returned (readV_none HE.out).symm, rfl⟩
  have hh : s.size = 1 ∨ ¬ s[0] = 48 := by
    by_cases h : 1 < s.size
    · exact .inr (fun e => h3 ⟨h, e⟩)
    · exact .inl (by omega)
  have HH := Lib.hid hh
  have key : ((1 : Int) < s.size ∧ ((s[0].toNat : Int) == 48) = false) ∨ decide ((1 : Int) < s.size) = false := by
    by_cases h : 1 < s.size
    · refine .inl ⟨by omega, beq_false_of_ne (fun e => h3 ⟨h, ?_⟩)⟩
      apply UInt8.toNat_inj.1
      show _ = 48
      omega
    · exact .inr (decide_eq_false (by omega))
  clear h3 hh
  rcases key with ⟨e1, e2⟩ | e1
  all_goals
    go_enter Tryd.func22, Tryd.ntmps22
    go_wp2
    clear d1 d2 e1
    try clear e2
    go_loop [6, 7] (fun a i => ∃ k v : Nat, k ≤ s.size ∧ a = .int .u64 v ∧ i = .int .i64 k ∧ Hid (v = valD (s.data.toList.take k) ∧ v ≤ most ∧ ∀ b ∈ s.data.toList.take k, 48 ≤ b.toNat ∧ b.toNat ≤ 57)) (fun _ i => s.size - (intOf i).toNat)
    case atStart => exact ⟨0, 0, Nat.zero_le _, rfl, rfl, Lib.hid ⟨by simp [valD], Nat.zero_le _, by simp⟩⟩
    case round =>
      obtain ⟨k, v, hk, rfl, rfl, HK⟩ := hrel
      by_cases hlt : k < s.size
      · by_cases h1 : s[k].toNat < 48
        · have h1' : (s[k].toNat : Int) < 48 := by omega
          have HE := Lib.hid (read_bad (most := most) hlt (by omega))
          go_wp2; go_ret2; exact ⟨congrArg Ending.returned (readV_none HE.out).symm, rfl⟩
        · have h1' : decide ((s[k].toNat : Int) < 48) = false := decide_eq_false (by omega)
          by_cases h2 : 57 < s[k].toNat
          · have h2' : (57 : Int) < s[k].toNat := by omega
            have HE := Lib.hid (read_bad (most := most) hlt (by omega))
            go_wp2; go_ret2; exact ⟨congrArg Ending.returned (readV_none HE.out).symm, rfl⟩
          · have h2' : (s[k].toNat : Int) ≤ 57 := by omega
            have hv := HK.out.2.1
            obtain ⟨n, hn⟩ : ∃ n, valD (s.data.toList.take (k + 1)) = n := ⟨_, rfl⟩
            have hvn : n = 10 * v + (s[k].toNat - 48) := by rw [← hn, take_dig s k hlt, valD_app, ← HK.out.1]
            by_cases hdm : most < s[k].toNat - 48
            · have TA := over_test (v := v) (most := most) (d := s[k].toNat) (by omega) (by omega) (by omega) (by omega)
              have hdm' : (most : Int) < s[k].toNat - 48 := by omega
              have HE := Lib.hid (read_over (most := most) (s := s) (k := k + 1) (by show most < valD (s.data.toList.take (k + 1)); omega))
              clear hn hvn
              go_wp2; go_ret2; exact ⟨congrArg Ending.returned (readV_none HE.out).symm, rfl⟩
            · have hdm' : (s[k].toNat : Int) - 48 ≤ most := by omega
              by_cases hov : most < n
              · have TB : ((most : Int) - ((s[k].toNat : Int) - 48)) / 10 < v := by omega
                have HE := Lib.hid (read_over (most := most) (s := s) (k := k + 1) (by show most < valD (s.data.toList.take (k + 1)); omega))
                clear hn hvn
                go_wp2; go_ret2; exact ⟨congrArg Ending.returned (readV_none HE.out).symm, rfl⟩
              · have TB : decide (((most : Int) - ((s[k].toNat : Int) - 48)) / 10 < v) = false := decide_eq_false (by omega)
                have TC : decide ((most : Int) < (s[k].toNat : Int) - 48) = false := decide_eq_false (by omega)
                have TN : IntKind.u64.wrap (IntKind.u64.wrap (10 * (v : Int)) + ((s[k].toNat : Int) - 48)) = n := by
                  rw [show ∀ x : Int, IntKind.u64.wrap x = x % 18446744073709551616 from fun x => by simp only [IntKind.wrap, IntKind.signed, IntKind.bits]; rfl, show ∀ x : Int, IntKind.u64.wrap x = x % 18446744073709551616 from fun x => by simp only [IntKind.wrap, IntKind.signed, IntKind.bits]; rfl]
                  omega
                have HK' := Lib.hid (show n = valD (s.data.toList.take (k + 1)) ∧ n ≤ most ∧ ∀ b ∈ s.data.toList.take (k + 1), 48 ≤ b.toNat ∧ b.toNat ≤ 57 from ⟨hn.symm, by omega, by
                  intro b hb
                  rw [take_dig s k hlt] at hb
                  rcases List.mem_append.1 hb with hb | hb
                  · exact HK.out.2.2 b hb
                  · obtain rfl := List.mem_singleton.1 hb
                    omega⟩)
                clear hn hvn hov
                go_wp2
                go_round
                case rel => exact ⟨k + 1, n, by omega, rfl, by go_num, HK'⟩
                case measure => simp [intOf]; omega
      · have hks : k = s.size := by omega
        subst hks
        have hl : s.data.toList.take s.size = ls s := List.take_of_length_le (by rw [Array.length_toList]; exact Nat.le_refl _)
        have HK2 := HK.out
        rw [hl] at HK2
        have HE := Lib.hid (show readR most (ls s) = some v from by
          rw [HK2.1]
          exact read_good h0 HK2.2.2 HH.out (by rw [← HK2.1]; exact HK2.2.1))
        clear HK2 hl
        go_wp2
        go_ret2
        exact ⟨congrArg Ending.returned (readV_some HE.out).symm, rfl⟩
end Go.Proofs.YtakgdmcekhafoaaDoor.NuS
