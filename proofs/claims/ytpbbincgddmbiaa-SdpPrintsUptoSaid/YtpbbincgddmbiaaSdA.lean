/- sdp.Value, rostrumref06.Value, sdp.Attr.good. -/
import Derived.Test.YtpbbincgddmbiaaShelf
import Derived.Test.YtpbbincgddmbiaaWo
import Derived.Test.YtpbbincgddmbiaaSl
import Derived.Lib.DecodeN
namespace Go.Proofs.Ytpbbincgddmbiaa
open Go.RowKit
set_option linter.unusedSimpArgs false

theorem decode_low {s : ByteArray} {i : Nat} (hi : i < s.size) (h : s[i].toNat < 128) : Utf8.decode s i = (s[i].toNat, 1) := by
  rw [Lib.decode_at]
  have e : s.get! i = s[i] := by
    show s.data[i]! = s.data[i]
    exact getElem!_pos s.data i hi
  rw [e]
  unfold Lib.decodeN
  rw [if_pos h]
theorem decode_high {s : ByteArray} {i : Nat} (hi : i < s.size) (h : ¬ s[i].toNat < 128) : 128 ≤ (Utf8.decode s i).1 := by
  rw [Lib.decode_at]
  have e : s.get! i = s[i] := by
    show s.data[i]! = s.data[i]
    exact getElem!_pos s.data i hi
  rw [e]
  unfold Lib.decodeN
  rw [if_neg h]
  repeat' split
  all_goals first | omega | (simp only []; omega)
def runeP (r : Nat) : Bool := decide (r < 32) || decide (126 < r)
def badB (c : UInt8) : Bool := decide (c.toNat < 32) || decide (126 < c.toNat)
def valB (s : ByteArray) (most : Int) : Bool := !(s.data.toList.any badB) && (decide (1 ≤ s.size) && decide ((s.size : Int) ≤ most))
theorem drop_byte {s : ByteArray} {i : Nat} (hi : i < s.size) : s.data.toList.drop i = s[i] :: s.data.toList.drop (i + 1) := by
  have h : i < s.data.toList.length := by simpa using hi
  rw [List.drop_eq_getElem_cons h]
  rfl
theorem idx_from (s : ByteArray) : ∀ f pos, s.size ≤ pos + f → decide (0 ≤ Lib.idxFuncFrom runeP true s f pos) = (s.data.toList.drop pos).any badB
  | 0, pos, h => by
    rw [List.drop_of_length_le (by rw [Array.length_toList]; show s.size ≤ pos; omega)]
    rfl
  | f + 1, pos, h => by
    unfold Lib.idxFuncFrom
    by_cases hp : pos < s.size
    · rw [if_pos hp, drop_byte hp, List.any_cons]
      by_cases hb : s[pos].toNat < 128
      · rw [decode_low hp hb]
        by_cases hr : runeP s[pos].toNat = true
        · rw [if_pos hr]
          have : badB s[pos] = true := hr
          rw [this, Bool.true_or]
          exact decide_eq_true (by omega)
        · rw [if_neg hr]
          have : badB s[pos] = false := by
            cases e : badB s[pos]
            · rfl
            · exact absurd e hr
          rw [this, Bool.false_or]
          exact idx_from s f (pos + 1) (by omega)
      · have h1 := decode_high hp hb
        have h2 : runeP (Utf8.decode s pos).1 = true := by
          unfold runeP
          rw [decide_eq_true (show 126 < (Utf8.decode s pos).1 by omega), Bool.or_true]
        rw [if_pos h2]
        have : badB s[pos] = true := by
          unfold badB
          rw [decide_eq_true (show 126 < s[pos].toNat by omega), Bool.or_true]
        rw [this, Bool.true_or]
        exact decide_eq_true (by omega)
    · rw [if_neg hp, List.drop_of_length_le (by rw [Array.length_toList]; show s.size ≤ pos; omega)]
      rfl
theorem idx_value (s : ByteArray) : decide (0 ≤ Lib.idxFunc runeP true s) = s.data.toList.any badB := by
  have := idx_from s s.size 0 (by omega)
  rw [List.drop_zero] at this
  exact this
theorem eg37 : ∀ args w, (callFunc 37 args).run Try.prog w = .ok (.enter 37 args) w := enters_of Try.func37 (by kernel_rfl) rfl
theorem c37 (W : World) (x : Nat) (hx : x ≤ 1114111) : Calls Try.prog 37 #[.int .i32 (x : Int)] W fun e w' => e = .returned (.bool (runeP x)) ∧ w' = W := by
  by_cases h1 : x < 32
  · have h1' : (x : Int) < 32 := by omega
    go_enter Try.func37, Try.ntmps37
    go_wp2
    go_returns
    exact ⟨ret_eq (by unfold runeP; rw [decide_eq_true h1]; rfl), rfl⟩
  · have h1' : (32 : Int) ≤ x := by omega
    by_cases h2 : 126 < x
    · have h2' : (126 : Int) < x := by omega
      go_enter Try.func37, Try.ntmps37
      go_wp2
      go_returns
      exact ⟨ret_eq (by unfold runeP; rw [decide_eq_true h2, Bool.or_true]; rfl), rfl⟩
    · have h2' : (x : Int) ≤ 126 := by omega
      go_enter Try.func37, Try.ntmps37
      go_wp2
      go_returns
      exact ⟨ret_eq (by unfold runeP; rw [decide_eq_false h1, decide_eq_false h2]; first | rfl | (simp; omega)), rfl⟩
theorem pays37 (w : World) : PredGrows Try.prog 37 #[] runeP w := fun W x hx _ => (c37 W x hx).mono fun _ _ ⟨h1, h2⟩ => ⟨h1, h2 ▸ Below.refl _ _⟩
theorem empty_of {s : ByteArray} (h : s.size = 0) : s = ⟨#[]⟩ := by
  obtain ⟨⟨l⟩⟩ := s
  cases l with
  | nil => rfl
  | cons a r => cases h
theorem isEmpty_no {s : ByteArray} (h : ¬ s.size = 0) : s.toList.isEmpty = false := by
  cases e : s.toList.isEmpty
  · rfl
  · rw [List.isEmpty_iff, ByteArray.toList_eq] at e
    have : s.data.toList.length = 0 := by rw [e]; rfl
    rw [Array.length_toList] at this
    exact absurd this h
theorem isEmpty_yes {s : ByteArray} (h : s.size = 0) : s.toList.isEmpty = true := by rw [empty_of h, ByteArray.toList_eq]; rfl
set_option maxHeartbeats 1000000 in
theorem valueP (s : ByteArray) (w : World) (hs : s.size ≤ maxLen) : Calls Try.prog 21 #[.string s] w fun e w' => e = .returned (.bool (valB s 200)) ∧ Below w.heap.size w w' := by
  unfold maxLen at hs
  by_cases h0 : s.size = 0
  · obtain rfl := empty_of h0
    go_enter Try.func21, Try.ntmps21
    go_wp2
    go_returns
    exact ⟨rfl, Below.refl _ _⟩
  have hne : s.toList.isEmpty = false := isEmpty_no h0
  by_cases h2 : s.size ≤ 200
  · have h2' : (s.size : Int) ≤ 200 := by omega
    have hc := Try.strings_ContainsFunc_grows 37 #[] eg37 runeP s w (pays37 w)
    rw [idx_value] at hc
    obtain ⟨b, hb⟩ : ∃ b, b = s.data.toList.any badB := ⟨_, rfl⟩
    rw [← hb] at hc
    have HV := Lib.hid (show valB s 200 = !b by unfold valB; rw [← hb, decide_eq_true (show 1 ≤ s.size by omega), decide_eq_true h2']; cases b <;> rfl)
    clear hb
    go_enter Try.func21, Try.ntmps21
    go_wp2_with (go_at_call 36; refine hc.mono ?_; clear hc; rintro e w2 ⟨rfl, hbl⟩; have HB := Lib.hid hbl; clear hbl)
    go_returns
    exact ⟨ret_eq (by rw [HV.out]; rfl), HB.out⟩
  · have h2' : (200 : Int) < s.size := by omega
    have HV := Lib.hid (show valB s 200 = false by unfold valB; rw [decide_eq_false (show ¬ (s.size : Int) ≤ 200 by omega)]; simp)
    go_enter Try.func21, Try.ntmps21
    go_wp2
    go_returns
    exact ⟨ret_eq (by rw [HV.out]; first | rfl | (simp; omega)), Below.refl _ _⟩
theorem any_take_byte {s : ByteArray} {k : Nat} (hk : k < s.size) : (s.data.toList.take (k + 1)).any badB = ((s.data.toList.take k).any badB || badB s[k]) := by
  have h : k < s.data.toList.length := by simpa using hk
  rw [List.take_succ_eq_append_getElem h, List.any_append]
  show _ = (_ || badB s.data[k])
  simp
set_option maxHeartbeats 1000000 in
theorem valueR (s : ByteArray) (most : Int) (w : World) (hs : s.size ≤ maxLen) : Calls Try.prog 17 #[.string s, .int .i64 most] w fun e w' => e = .returned (.bool (valB s most)) ∧ w' = w := by
  unfold maxLen at hs
  go_enter Try.func17, Try.ntmps17
  go_wp2
  go_loop [5] (fun i => ∃ k : Nat, k ≤ s.size ∧ i = .int .i64 k ∧ Hid ((s.data.toList.take k).any badB = false)) (fun i => s.size - (intOf i).toNat)
  case atStart => exact ⟨0, Nat.zero_le _, rfl, Lib.hid (by simp)⟩
  case round =>
    obtain ⟨k, hk, rfl, hok⟩ := hrel
    by_cases hlt : k < s.size
    · have hnx := any_take_byte hlt
      rw [hok.out, Bool.false_or] at hnx
      by_cases h1 : s[k].toNat < 32
      · have h1' : (s[k].toNat : Int) < 32 := by omega
        have HB := Lib.hid (show valB s most = false by
          unfold valB
          have : s.data.toList.any badB = true := List.any_eq_true.2 ⟨s[k], Array.getElem_mem_toList _, by unfold badB; rw [decide_eq_true h1]; rfl⟩
          rw [this]; rfl)
        clear hnx
        go_wp2
        go_returns
        exact ⟨ret_eq (by rw [HB.out]; rfl), rfl⟩
      · have h1' : (32 : Int) ≤ s[k].toNat := by omega
        by_cases h2 : 126 < s[k].toNat
        · have h2' : (126 : Int) < s[k].toNat := by omega
          have HB := Lib.hid (show valB s most = false by
            unfold valB
            have : s.data.toList.any badB = true := List.any_eq_true.2 ⟨s[k], Array.getElem_mem_toList _, by unfold badB; rw [decide_eq_true h2, Bool.or_true]⟩
            rw [this]; rfl)
          clear hnx
          go_wp2
          go_returns
          exact ⟨ret_eq (by rw [HB.out]; rfl), rfl⟩
        · have h2' : (s[k].toNat : Int) ≤ 126 := by omega
          have HN := Lib.hid (show (s.data.toList.take (k + 1)).any badB = false by rw [hnx]; unfold badB; rw [decide_eq_false h1, decide_eq_false h2]; rfl)
          clear hnx hok
          go_wp2
          go_round
          case rel => exact ⟨k + 1, by omega, by go_num, HN⟩
          case measure => simp [intOf]; omega
    · have hk' : (s.size : Int) ≤ k := by omega
      have h3 : s.data.toList.any badB = false := by
        have := hok.out
        rw [List.take_of_length_le (by rw [Array.length_toList]; show s.size ≤ k; omega)] at this
        exact this
      have HV := Lib.hid (show valB s most = (decide (1 ≤ s.size) && decide ((s.size : Int) ≤ most)) by unfold valB; rw [h3]; rfl)
      clear h3 hok hlt
      by_cases h1 : 1 ≤ s.size
      · have h1' : (1 : Int) ≤ s.size := by omega
        by_cases h2 : (s.size : Int) ≤ most
        · go_wp2
          go_returns
          exact ⟨ret_eq (by rw [HV.out, decide_eq_true h1, decide_eq_true h2]; rfl), rfl⟩
        · have h2' : most < s.size := by omega
          go_wp2
          go_returns
          exact ⟨ret_eq (by rw [HV.out, decide_eq_true h1, decide_eq_false (show ¬ (s.size : Int) ≤ most by omega)]; first | rfl | (simp; omega)), rfl⟩
      · have h1' : (s.size : Int) < 1 := by omega
        go_wp2
        go_returns
        exact ⟨ret_eq (by rw [HV.out, decide_eq_false (show ¬ 1 ≤ s.size by omega)]; first | rfl | (simp; omega)), rfl⟩
def goodB (name value : ByteArray) : Bool := wordB name 1 32 && (decide (value.size = 0) || valB value 200)
theorem goodP (name value : ByteArray) (w : World) (hn : name.size ≤ maxLen) (hv : value.size ≤ maxLen) : Calls Try.prog 22 #[.agg #[.string name, .string value]] w fun e w' => e = .returned (.bool (goodB name value)) ∧ Below w.heap.size w w' := by
  have hb := (Below.refl _ w).alloc (Nat.le_refl _) (.cells #[.string name, .string value] 49)
  obtain ⟨z0, z1, _, _, z3⟩ := Blk.two (show Blk (w.alloc (.cells #[.string name, .string value] 49)) w.heap.size 49 #[.string name, .string value] from heap_alloc_new w _)
  have HB := Lib.hid hb
  clear hb
  cases hw : wordB name 1 32
  · have HE := Lib.hid (show goodB name value = false by unfold goodB; rw [hw]; rfl)
    go_enter Try.func22, Try.ntmps22
    go_wp2_with (go_at_call 38; refine (wordP name 1 32 _ hn).mono ?_; rw [hw]; rintro e w1 ⟨rfl, hb1⟩; have H2 := Lib.hid (HB.out.trans (hb1.mono (by simp))); clear hb1)
    go_returns
    exact ⟨ret_eq (by rw [HE.out]; rfl), H2.out⟩
  · by_cases h0 : value.size = 0
    · have he := isEmpty_yes h0
      have HE := Lib.hid (show goodB name value = true by unfold goodB; rw [hw, decide_eq_true h0]; rfl)
      go_enter Try.func22, Try.ntmps22
      go_wp2_with (go_at_call 38; refine (wordP name 1 32 _ hn).mono ?_; rw [hw]; rintro e w1 ⟨rfl, hb1⟩; have H2 := Lib.hid (HB.out.trans (hb1.mono (by simp))); have z9 := (hb1.cell (p := ⟨w.heap.size, 1, none⟩) z3).trans z1; clear hb1)
      go_returns
      exact ⟨ret_eq (by rw [HE.out]; rfl), H2.out⟩
    · have he := isEmpty_no h0
      have HE := Lib.hid (show goodB name value = valB value 200 by unfold goodB; rw [hw, decide_eq_false h0]; rfl)
      obtain ⟨v, hvv⟩ : ∃ v, v = valB value 200 := ⟨_, rfl⟩
      rw [← hvv] at HE
      have HV := Lib.hid hvv
      clear hvv h0
      go_enter Try.func22, Try.ntmps22
      go_wp2_with (first | (go_at_call 38; refine (wordP name 1 32 _ hn).mono ?_; rw [hw]; rintro e w1 ⟨rfl, hb1⟩; have H2 := Lib.hid (HB.out.trans (hb1.mono (by simp))); have z9 := (hb1.cell (p := ⟨w.heap.size, 1, none⟩) z3).trans z1; clear hb1) | (go_at_call 21; refine (valueP value _ hv).mono ?_; rw [← HV.out]; rintro e w3 ⟨rfl, hb1⟩; have H3 := Lib.hid (H2.out.trans (hb1.mono H2.out.size)); clear hb1))
      go_returns
      exact ⟨ret_eq (by rw [HE.out]; rfl), H3.out⟩
end Go.Proofs.Ytpbbincgddmbiaa
