/- wire.Word, rostrumref01.Word. -/
import Derived.Test.YtakgdmcekhafoaaDoorMo
import Derived.Laws.OwnMore
namespace Go.Proofs.YtakgdmcekhafoaaDoor
open Go.RowKit
set_option linter.unusedSimpArgs false

theorem ret_bool {a b : Bool} (h : a = b) : Ending.returned (.bool a) = .returned (.bool b) := by rw [h]
def okc (c : UInt8) : Bool := (97 ≤ c && c ≤ 122) || (65 ≤ c && c ≤ 90) || (48 ≤ c && c ≤ 57) || c == 45 || c == 95
def wordB (s : ByteArray) (lo hi : Int) : Bool := s.data.toList.all okc && decide (lo ≤ s.size) && decide ((s.size : Int) ≤ hi)
theorem okc_iff (c : UInt8) : okc c = true ↔ (97 ≤ c.toNat ∧ c.toNat ≤ 122) ∨ (65 ≤ c.toNat ∧ c.toNat ≤ 90) ∨ (48 ≤ c.toNat ∧ c.toNat ≤ 57) ∨ c.toNat = 45 ∨ c.toNat = 95 := by
  simp only [okc, Bool.or_eq_true, Bool.and_eq_true, decide_eq_true_eq, UInt8.le_iff_toNat_le, beq_iff_eq, ← UInt8.toNat_inj, or_assoc]
  rfl
theorem okc_no (c : UInt8) : okc c = false ↔ ¬ ((97 ≤ c.toNat ∧ c.toNat ≤ 122) ∨ (65 ≤ c.toNat ∧ c.toNat ≤ 90) ∨ (48 ≤ c.toNat ∧ c.toNat ≤ 57) ∨ c.toNat = 45 ∨ c.toNat = 95) := by
  rw [← okc_iff]; simp
theorem take_all (s : ByteArray) (k : Nat) (hk : k < s.size) : (s.data.toList.take (k + 1)).all okc = ((s.data.toList.take k).all okc && okc s[k]) := by
  rw [List.take_succ_eq_append_getElem (by simpa using hk), List.all_append]
  simp only [List.all_cons, List.all_nil, Bool.and_true]; rfl
theorem wordB_bad {s : ByteArray} {lo hi : Int} {k : Nat} (hk : k < s.size) (h : okc s[k] = false) : wordB s lo hi = false := by
  have : s.data.toList.all okc = false := by
    rw [List.all_eq_false]
    exact ⟨s[k], by rw [show s[k] = s.data.toList[k]'(by simpa using hk) from rfl]; exact List.getElem_mem _, by rw [h]; simp⟩
  simp [wordB, this]
theorem wordB_all {s : ByteArray} {lo hi : Int} {k : Nat} (hk : ¬ k < s.size) (h : (s.data.toList.take k).all okc = true) : wordB s lo hi = (decide (lo ≤ s.size) && decide ((s.size : Int) ≤ hi)) := by
  rw [List.take_of_length_le (by simp; omega)] at h
  simp only [wordB, h, Bool.true_and]

set_option maxHeartbeats 1000000 in
theorem wordR (s : ByteArray) (lo hi : Int) (w : World) (hs : s.size ≤ maxLen) :
    Calls Tryd.prog 27 #[.string s, .int .i64 lo, .int .i64 hi] w fun e w' => e = .returned (.bool (wordB s lo hi)) ∧ w = w' := by
  unfold maxLen at hs
  go_enter Tryd.func27, Tryd.ntmps27
  go_wp2
  go_loop [7] (fun i => ∃ k : Nat, k ≤ s.size ∧ i = .int .i64 k ∧ (s.data.toList.take k).all okc = true) (fun i => s.size - (intOf i).toNat)
  case atStart => exact ⟨0, Nat.zero_le _, rfl, by simp⟩
  case round =>
    obtain ⟨k, hk, rfl, hok⟩ := hrel
    have Hok := Lib.hid hok
    clear hok
    by_cases hlt : k < s.size
    · go_wp2
      all_goals first
        | (have hb : okc s[k] = false := by (rw [okc_no]; first | omega | (have hd := ‹_ ∧ _›; simp at hd; omega))
           go_ret
           exact ⟨ret_bool (wordB_bad hlt hb).symm, rfl⟩)
        | (have hb : okc s[k] = true := by (rw [okc_iff]; first | omega | (have hd := ‹_ ∨ _›; simp at hd; omega))
           go_round
           case rel => exact ⟨k + 1, by omega, by go_num, by rw [take_all s k hlt, Hok.out, hb]; rfl⟩
           case measure => simp [intOf]; omega)
    · by_cases hl : lo ≤ s.size
      · go_wp2
        go_ret
        exact ⟨ret_bool (by rw [wordB_all hlt Hok.out]; simp [hl]), rfl⟩
      · have hl' : decide (lo ≤ s.size) = false := by simpa using hl
        go_wp2
        go_ret
        exact ⟨ret_bool (by rw [wordB_all hlt Hok.out, hl']; rfl), rfl⟩

theorem bytesRow_get (s : ByteArray) (c k : Nat) (h : k < s.size) : (bytesRow s c)[k]? = some (.int .u8 s[k].toNat) := by
  have : k < s.data.size := h
  simp only [bytesRow]
  rw [Array.getElem?_append_left (by simpa using this)]
  rw [Array.getElem?_map, Array.getElem?_eq_getElem this]; rfl

set_option maxHeartbeats 1000000 in
theorem wordP (s : ByteArray) (lo hi : Int) (w : World) (hs : s.size ≤ maxLen) :
    Calls Tryd.prog 31 #[.string s, .int .i64 lo, .int .i64 hi] w fun e w' => e = .returned (.bool (wordB s lo hi)) ∧ Below w.heap.size w w' := by
  unfold maxLen at hs
  have hconv := run_bytes_of_string (P := Tryd.prog) w 9 22 5 s Tryd.underlying9 Tryd.underlying22 Tryd.underlying5
  have hbb : Below w.heap.size w (w.drew.alloc (.cells (bytesRow s (grownCap w s.size 0 5)) 5 ((bytesRow s (grownCap w s.size 0 5)).size, (bytesRow s (grownCap w s.size 0 5)).size + 1))) := ((Below.refl _ _).drew).alloc (Nat.le_refl _) _
  have hcell : ∀ k (h : k < s.size), (w.drew.alloc (.cells (bytesRow s (grownCap w s.size 0 5)) 5 ((bytesRow s (grownCap w s.size 0 5)).size, (bytesRow s (grownCap w s.size 0 5)).size + 1))).cell? ⟨w.heap.size, k, none⟩ = some (.int .u8 s[k].toNat) := fun k h => by
    rw [show w.heap.size = w.drew.heap.size from rfl, World.cell?_alloc_mark]; exact bytesRow_get s _ k h
  have Hb := Lib.hid hbb
  have Hc := Lib.hid hcell
  clear hbb hcell
  generalize (w.drew.alloc (.cells (bytesRow s (grownCap w s.size 0 5)) 5 ((bytesRow s (grownCap w s.size 0 5)).size, (bytesRow s (grownCap w s.size 0 5)).size + 1))) = w1 at *
  go_enter Tryd.func31, Tryd.ntmps31
  go_wp2
  go_loop [12] (fun i => ∃ k : Nat, k ≤ s.size ∧ i = .int .i64 k ∧ (s.data.toList.take k).all okc = true) (fun i => s.size - (intOf i).toNat)
  case atStart => exact ⟨0, Nat.zero_le _, rfl, by simp⟩
  case round =>
    obtain ⟨k, hk, rfl, hok⟩ := hrel
    have Hok := Lib.hid hok
    clear hok hconv
    by_cases hlt : k < s.size
    · have hz := Hc.out k hlt
      go_wp2
      all_goals first
        | (have hb : okc s[k] = false := by (rw [okc_no]; have h1 := ‹((s[k].toNat : Int) == 45) = false›; have h2 := ‹((s[k].toNat : Int) == 95) = false›; simp at h1 h2; omega)
           go_ret
           exact ⟨ret_bool (wordB_bad hlt hb).symm, Hb.out⟩)
        | (have hb : okc s[k] = true := by (rw [okc_iff]; first | omega | (have hd := ‹((s[k].toNat : Int) == 45) = true›; simp at hd; omega) | (have hd := ‹((s[k].toNat : Int) == 95) = true›; simp at hd; omega))
           go_round
           case rel => exact ⟨k + 1, by omega, by go_num, by rw [take_all s k hlt, Hok.out, hb]; rfl⟩
           case measure => simp [intOf]; omega)
    · by_cases hl : lo ≤ s.size
      · go_wp2
        go_ret
        exact ⟨ret_bool (by rw [wordB_all hlt Hok.out]; simp [hl]), Hb.out⟩
      · have hl' : decide (lo ≤ s.size) = false := by simpa using hl
        go_wp2
        go_ret
        exact ⟨ret_bool (by rw [wordB_all hlt Hok.out, hl']; rfl), Hb.out⟩
end Go.Proofs.YtakgdmcekhafoaaDoor
