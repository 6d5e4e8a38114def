/- signal.of. -/
import Derived.Test.YthmamheegkppdaaDoorShelf
import Derived.Test.YthmamheegkppdaaDoorTx
import Derived.Test.YthmamheegkppdaaDoorSl
import Derived.Lib.DecodeN
namespace Go.Proofs.YthmamheegkppdaaDoor
open Go.RowKit
set_option linter.unusedSimpArgs false

theorem decode_low {s : ByteArray} {i : Nat} (hi : i < s.size) (h : s[i].toNat < 128) : Utf8.decode s i = (s[i].toNat, 1) := by
  rw [Lib.decode_at]
  have e : s.get! i = s[i] := by
    show s.data[i]! = s.data[i]
    exact getElem!_pos s.data i hi
  rw [e]
  unfold Lib.decodeN
  rw [if_pos h]
theorem decode_high {s : ByteArray} {i : Nat} (hi : i < s.size) (h : ¬ s[i].toNat < 128) : 128 ≤ (Utf8.decode s i).1 := by
  rw [Lib.decode_at]
  have e : s.get! i = s[i] := by
    show s.data[i]! = s.data[i]
    exact getElem!_pos s.data i hi
  rw [e]
  unfold Lib.decodeN
  rw [if_neg h]
  repeat' split
  all_goals first | omega | (simp only []; omega)
def runeP (lo hi r : Nat) : Bool := decide (r < lo) || decide (hi < r)
def badB (lo hi : Nat) (c : UInt8) : Bool := decide (c.toNat < lo) || decide (hi < c.toNat)
def ofB (s : ByteArray) (n lo hi : Nat) : Bool := !(s.data.toList.any (badB lo hi)) && (decide (1 ≤ s.size) && decide (s.size ≤ n))
theorem drop_byte {s : ByteArray} {i : Nat} (hi : i < s.size) : s.data.toList.drop i = s[i] :: s.data.toList.drop (i + 1) := by
  have h : i < s.data.toList.length := by simpa using hi
  rw [List.drop_eq_getElem_cons h]
  rfl
theorem idx_from (s : ByteArray) (lo hi : Nat) (hh : hi < 128) : ∀ f pos, s.size ≤ pos + f → decide (0 ≤ Lib.idxFuncFrom (runeP lo hi) true s f pos) = (s.data.toList.drop pos).any (badB lo hi)
  | 0, pos, h => by
    rw [List.drop_of_length_le (by rw [Array.length_toList]; show s.size ≤ pos; omega)]
    rfl
  | f + 1, pos, h => by
    unfold Lib.idxFuncFrom
    by_cases hp : pos < s.size
    · rw [if_pos hp, drop_byte hp, List.any_cons]
      by_cases hb : s[pos].toNat < 128
      · rw [decode_low hp hb]
        by_cases hr : runeP lo hi s[pos].toNat = true
        · rw [if_pos hr]
          have : badB lo hi s[pos] = true := hr
          rw [this, Bool.true_or]
          exact decide_eq_true (by omega)
        · rw [if_neg hr]
          have : badB lo hi s[pos] = false := by
            cases e : badB lo hi s[pos]
            · rfl
            · exact absurd e hr
          rw [this, Bool.false_or]
          exact idx_from s lo hi hh f (pos + 1) (by omega)
      · have h1 := decode_high hp hb
        have h2 : runeP lo hi (Utf8.decode s pos).1 = true := by
          unfold runeP
          rw [decide_eq_true (show hi < (Utf8.decode s pos).1 by omega), Bool.or_true]
        rw [if_pos h2]
        have : badB lo hi s[pos] = true := by
          unfold badB
          rw [decide_eq_true (show hi < s[pos].toNat by omega), Bool.or_true]
        rw [this, Bool.true_or]
        exact decide_eq_true (by omega)
    · rw [if_neg hp, List.drop_of_length_le (by rw [Array.length_toList]; show s.size ≤ pos; omega)]
      rfl
theorem idx_value (s : ByteArray) (lo hi : Nat) (hh : hi < 128) : decide (0 ≤ Lib.idxFunc (runeP lo hi) true s) = s.data.toList.any (badB lo hi) := by
  have := idx_from s lo hi hh s.size 0 (by omega)
  rw [List.drop_zero] at this
  exact this
theorem eg35 : ∀ args w, (callFunc 35 args).run Tryd.prog w = .ok (.enter 35 args) w := enters_of Tryd.func35 (by kernel_rfl) rfl
theorem c35 (W : World) (x lo hi b1 b2 : Nat) (h1 : W.cell? ⟨b1, 0, none⟩ = some (.int .i32 lo)) (h2 : W.cell? ⟨b2, 0, none⟩ = some (.int .i32 hi)) : Calls Tryd.prog 35 #[.int .i32 (x : Int), .pointer (some ⟨b1, 0, none⟩), .pointer (some ⟨b2, 0, none⟩)] W fun e w' => e = .returned (.bool (runeP lo hi x)) ∧ w' = W := by
  by_cases h1 : x < lo
  · have h1' : (x : Int) < lo := by omega
    go_enter Tryd.func35, Tryd.ntmps35
    go_wp2
    go_returns
    exact ⟨ret_eq (by unfold runeP; rw [decide_eq_true h1]; rfl), rfl⟩
  · have h1' : (lo : Int) ≤ x := by omega
    by_cases h2 : hi < x
    · have h2' : (hi : Int) < x := by omega
      go_enter Tryd.func35, Tryd.ntmps35
      go_wp2
      go_returns
      exact ⟨ret_eq (by unfold runeP; rw [decide_eq_true h2, Bool.or_true]; rfl), rfl⟩
    · have h2' : (x : Int) ≤ hi := by omega
      go_enter Tryd.func35, Tryd.ntmps35
      go_wp2
      go_returns
      exact ⟨ret_eq (by unfold runeP; rw [decide_eq_false h1, decide_eq_false h2]; first | rfl | (simp; omega)), rfl⟩
theorem pays35 (w : World) (lo hi b1 b2 : Nat) (h1 : w.cell? ⟨b1, 0, none⟩ = some (.int .i32 lo)) (h2 : w.cell? ⟨b2, 0, none⟩ = some (.int .i32 hi)) : PredGrows Tryd.prog 35 #[.pointer (some ⟨b1, 0, none⟩), .pointer (some ⟨b2, 0, none⟩)] (runeP lo hi) w := fun W x _ hb =>
  (c35 W x lo hi b1 b2 ((hb.cell (p := ⟨b1, 0, none⟩) (cell_lt h1)).trans h1) ((hb.cell (p := ⟨b2, 0, none⟩) (cell_lt h2)).trans h2)).mono fun _ _ ⟨h1, h2⟩ => ⟨h1, h2 ▸ Below.refl _ _⟩
theorem empty_of {s : ByteArray} (h : s.size = 0) : s = ⟨#[]⟩ := by
  obtain ⟨⟨l⟩⟩ := s
  cases l with
  | nil => rfl
  | cons a r => cases h
theorem isEmpty_no {s : ByteArray} (h : ¬ s.size = 0) : s.toList.isEmpty = false := by
  cases e : s.toList.isEmpty
  · rfl
  · rw [List.isEmpty_iff, ByteArray.toList_eq] at e
    have : s.data.toList.length = 0 := by rw [e]; rfl
    rw [Array.length_toList] at this
    exact absurd this h
set_option maxHeartbeats 1000000 in
theorem ofP (s : ByteArray) (n lo hi : Nat) (w : World) (hs : s.size ≤ maxLen) (hh : hi < 128) : Calls Tryd.prog 22 #[.string s, .int .i64 n, .int .i32 lo, .int .i32 hi] w fun e w' => e = .returned (.bool (ofB s n lo hi)) ∧ Below w.heap.size w w' := by
  unfold maxLen at hs
  by_cases h0 : s.size = 0
  · obtain rfl := empty_of h0
    have HV := Lib.hid (show ofB ⟨#[]⟩ n lo hi = false from rfl)
    go_enter Tryd.func22, Tryd.ntmps22
    go_wp2
    go_returns
    exact ⟨ret_eq (congrArg Value.bool HV.out.symm), (((Below.refl _ _).alloc (Nat.le_refl _) _).alloc (by simp) _)⟩
  have hne : s.toList.isEmpty = false := isEmpty_no h0
  by_cases h2 : s.size ≤ n
  · have h2' : (s.size : Int) ≤ n := by omega
    obtain ⟨W, hW⟩ : ∃ W, W = (w.alloc (.cells #[.int .i32 lo] 21)).alloc (.cells #[.int .i32 hi] 21) := ⟨_, rfl⟩
    have hbw : Below w.heap.size w W := by rw [hW]; exact ((Below.refl _ _).alloc (Nat.le_refl _) _).alloc (by simp) _
    have hc1 : W.cell? ⟨w.heap.size, 0, none⟩ = some (.int .i32 lo) := by rw [hW]; simp
    have hc2 : W.cell? ⟨w.heap.size + 1, 0, none⟩ = some (.int .i32 hi) := by
      rw [hW]
      have := World.cell?_alloc_new (w.alloc (.cells #[.int .i32 lo] 21)) #[.int .i32 hi] 21 0
      simp
    have hc := Tryd.strings_ContainsFunc_grows 35 _ eg35 (runeP lo hi) s W (pays35 W lo hi _ _ hc1 hc2)
    rw [idx_value s lo hi hh] at hc
    obtain ⟨b, hb⟩ : ∃ b, b = s.data.toList.any (badB lo hi) := ⟨_, rfl⟩
    rw [← hb] at hc
    have HV := Lib.hid (show ofB s n lo hi = !b by unfold ofB; rw [← hb, decide_eq_true (show 1 ≤ s.size by omega), decide_eq_true h2]; cases b <;> rfl)
    have HC := Lib.hid hc
    have HB := Lib.hid hbw
    clear hb hc1 hc2 hc hbw
    go_enter Tryd.func22, Tryd.ntmps22
    go_upto_region 1 with fail
    rw [← hW]
    clear hW
    go_wp2_with fail
    go_at_call 34
    refine HC.out.mono ?_
    rintro e w' ⟨rfl, hb⟩
    go_wp2
    go_returns
    exact ⟨ret_eq (congrArg Value.bool HV.out.symm), HB.out.trans (hb.mono HB.out.size)⟩
  · have hd : decide ((s.size : Int) ≤ n) = false := by simpa using h2
    have HV := Lib.hid (show ofB s n lo hi = false by unfold ofB; rw [decide_eq_false h2]; simp)
    go_enter Tryd.func22, Tryd.ntmps22
    go_wp2
    go_returns
    exact ⟨ret_eq (congrArg Value.bool HV.out.symm), (((Below.refl _ _).alloc (Nat.le_refl _) _).alloc (by simp) _)⟩
end Go.Proofs.YthmamheegkppdaaDoor
