import Derived.Test.YtpfacfolocjidaaFind
namespace Go.Proofs.Ytpfacfolocjidaa
open Go.RowKit

theorem ret_bool {a b : Bool} (h : a = b) : Ending.returned (.bool a) = .returned (.bool b) := by rw [h]

set_option maxHeartbeats 400000 in
theorem c20 (x : ByteArray) (base b : Nat) (v : Value) (cs : List Ch) (w : World) (hm : cs.length ≤ 8) (hk : Bk 68 79 w base b v cs) :
    Calls Try.prog 20 #[.pointer (some ⟨b, 0, none⟩), .string x] w (FndRet x cs w) := by
  obtain ⟨A, cap, rfl, hr⟩ := hk.form
  have hc := hk.cell
  clear hk
  go_enter Try.func20, Try.ntmps20
  go_wp2
  go_loop [12] (fun i => ∃ k : Nat, k ≤ cs.length ∧ i = .int .i64 k ∧ (∀ m (h : m < cs.length), m < k → (cs[m].2.toList == x.toList) = false)) (fun i => cs.length - (intOf i).toNat)
  case atStart => exact ⟨0, Nat.zero_le _, rfl, by omega⟩
  case round =>
    obtain ⟨k, hk, rfl, hno⟩ := hrel
    have Hno := Lib.hid hno
    by_cases hlt : k < cs.length
    · obtain ⟨g, rfl, hg, hcell⟩ := hr (by omega)
      obtain ⟨hz0, hz1⟩ := hcell k hlt
      clear hcell hno hr
      go_wp2
      · have he : (cs[k].2.toList == x.toList) = true := by assumption
        go_ret2
        exact ⟨by rw [fnd_hit hlt Hno.out he]; rfl, Below.refl _ _⟩
      · have he : (cs[k].2.toList == x.toList) = false := by assumption
        go_round
        case rel => exact ⟨k + 1, by omega, by go_num, fun m h hm => by rcases Nat.lt_succ_iff_lt_or_eq.1 hm with h1 | rfl; exact Hno.out m h h1; exact he⟩
        case measure => simp [intOf]; omega
    · go_wp2
      go_ret2
      exact ⟨by rw [fnd_miss fun m h => Hno.out m h (by omega)]; rfl, Below.refl _ _⟩

set_option maxHeartbeats 400000 in
theorem c34 (s : Int) (base b : Nat) (v : Value) (cs : List Ch) (w : World) (hm : cs.length ≤ 8) (hk : Bk 68 79 w base b v cs) :
    Calls Try.prog 34 #[.pointer (some ⟨b, 0, none⟩), .int .u16 s] w fun e w' => e = .returned (.int .i64 (idx s cs)) ∧ w = w' := by
  obtain ⟨A, cap, rfl, hr⟩ := hk.form
  have hc := hk.cell
  clear hk
  go_enter Try.func34, Try.ntmps34
  go_wp2
  go_loop [11] (fun i => ∃ k : Nat, k ≤ cs.length ∧ i = .int .i64 k ∧ (∀ m (h : m < cs.length), m < k → cs[m].1 ≠ s)) (fun i => cs.length - (intOf i).toNat)
  case atStart => exact ⟨0, Nat.zero_le _, rfl, by omega⟩
  case round =>
    obtain ⟨k, hk, rfl, hno⟩ := hrel
    have Hno := Lib.hid hno
    by_cases hlt : k < cs.length
    · obtain ⟨g, rfl, hg, hcell⟩ := hr (by omega)
      obtain ⟨hz0, hz1⟩ := hcell k hlt
      clear hcell hno hr
      go_wp2
      · have he : (cs[k].1 == s) = true := by assumption
        go_ret
        exact ⟨ret_int (idx_hit hlt Hno.out he), rfl⟩
      · have he : (cs[k].1 == s) = false := by assumption
        go_round
        case rel => exact ⟨k + 1, by omega, by go_num, fun m h hm => by rcases Nat.lt_succ_iff_lt_or_eq.1 hm with h1 | rfl; exact Hno.out m h h1; simpa using he⟩
        case measure => simp [intOf]; omega
    · go_wp2
      go_ret
      exact ⟨ret_int (idx_miss fun m h => Hno.out m h (by omega)), rfl⟩

def okc (c : UInt8) : Bool := (97 ≤ c && c ≤ 122) || (65 ≤ c && c ≤ 90) || (48 ≤ c && c ≤ 57) || c == 45 || c == 95
def wordB (s : ByteArray) (lo hi : Int) : Bool := s.data.toList.all okc && decide (lo ≤ s.size) && decide ((s.size : Int) ≤ hi)
theorem okc_iff (c : UInt8) : okc c = true ↔ (97 ≤ c.toNat ∧ c.toNat ≤ 122) ∨ (65 ≤ c.toNat ∧ c.toNat ≤ 90) ∨ (48 ≤ c.toNat ∧ c.toNat ≤ 57) ∨ c.toNat = 45 ∨ c.toNat = 95 := by
  simp only [okc, Bool.or_eq_true, Bool.and_eq_true, decide_eq_true_eq, UInt8.le_iff_toNat_le, beq_iff_eq, ← UInt8.toNat_inj, or_assoc]
  rfl
theorem okc_no (c : UInt8) : okc c = false ↔ ¬ ((97 ≤ c.toNat ∧ c.toNat ≤ 122) ∨ (65 ≤ c.toNat ∧ c.toNat ≤ 90) ∨ (48 ≤ c.toNat ∧ c.toNat ≤ 57) ∨ c.toNat = 45 ∨ c.toNat = 95) := by
  rw [← okc_iff]; simp
theorem take_all (s : ByteArray) (k : Nat) (hk : k < s.size) : (s.data.toList.take (k + 1)).all okc = ((s.data.toList.take k).all okc && okc s[k]) := by
  rw [List.take_succ_eq_append_getElem (by simpa using hk), List.all_append]
  simp only [List.all_cons, List.all_nil, Bool.and_true]; rfl
theorem wordB_bad {s : ByteArray} {lo hi : Int} {k : Nat} (hk : k < s.size) (h : okc s[k] = false) : wordB s lo hi = false := by
  have : s.data.toList.all okc = false := by
    rw [List.all_eq_false]
    exact ⟨s[k], by rw [show s[k] = s.data.toList[k]'(by simpa using hk) from rfl]; exact List.getElem_mem _, by rw [h]; simp⟩
  simp [wordB, this]
theorem wordB_all {s : ByteArray} {lo hi : Int} {k : Nat} (hk : ¬ k < s.size) (h : (s.data.toList.take k).all okc = true) : wordB s lo hi = (decide (lo ≤ s.size) && decide ((s.size : Int) ≤ hi)) := by
  rw [List.take_of_length_le (by simp; omega)] at h
  simp only [wordB, h, Bool.true_and]

set_option maxHeartbeats 1000000 in
theorem c26 (s : ByteArray) (lo hi : Int) (w : World) (hs : s.size ≤ maxLen) :
    Calls Try.prog 26 #[.string s, .int .i64 lo, .int .i64 hi] w fun e w' => e = .returned (.bool (wordB s lo hi)) ∧ w = w' := by
  unfold maxLen at hs
  go_enter Try.func26, Try.ntmps26
  go_wp2
  go_loop [7] (fun i => ∃ k : Nat, k ≤ s.size ∧ i = .int .i64 k ∧ (s.data.toList.take k).all okc = true) (fun i => s.size - (intOf i).toNat)
  case atStart => exact ⟨0, Nat.zero_le _, rfl, by simp⟩
  case round =>
    obtain ⟨k, hk, rfl, hok⟩ := hrel
    have Hok := Lib.hid hok
    clear hok
    by_cases hlt : k < s.size
    · go_wp2
      all_goals first
        | (have hb : okc s[k] = false := by (rw [okc_no]; first | omega | (have hd := ‹_ ∧ _›; simp at hd; omega))
           go_ret
           exact ⟨ret_bool (wordB_bad hlt hb).symm, rfl⟩)
        | (have hb : okc s[k] = true := by (rw [okc_iff]; first | omega | (have hd := ‹_ ∨ _›; simp at hd; omega))
           go_round
           case rel => exact ⟨k + 1, by omega, by go_num, by rw [take_all s k hlt, Hok.out, hb]; rfl⟩
           case measure => simp [intOf]; omega)
    · by_cases hl : lo ≤ s.size
      · go_wp2
        go_ret
        exact ⟨ret_bool (by rw [wordB_all hlt Hok.out]; simp [hl]), rfl⟩
      · have hl' : decide (lo ≤ s.size) = false := by simpa using hl
        go_wp2
        go_ret
        exact ⟨ret_bool (by rw [wordB_all hlt Hok.out, hl']; rfl), rfl⟩

end Go.Proofs.Ytpfacfolocjidaa
