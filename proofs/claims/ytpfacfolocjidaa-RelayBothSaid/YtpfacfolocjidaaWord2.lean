import Derived.Test.YtpfacfolocjidaaWord
namespace Go.Proofs.Ytpfacfolocjidaa
open Go.RowKit

theorem bytesRow_get (s : ByteArray) (c k : Nat) (h : k < s.size) : (bytesRow s c)[k]? = some (.int .u8 s[k].toNat) := by
  have : k < s.data.size := h
  simp only [bytesRow]
  rw [Array.getElem?_append_left (by simpa using this)]
  rw [Array.getElem?_map, Array.getElem?_eq_getElem this]; rfl

set_option maxHeartbeats 1000000 in
theorem c21 (s : ByteArray) (lo hi : Int) (w : World) (hs : s.size ≤ maxLen) :
    Calls Try.prog 21 #[.string s, .int .i64 lo, .int .i64 hi] w fun e w' => e = .returned (.bool (wordB s lo hi)) ∧ Below w.heap.size w w' := by
  unfold maxLen at hs
  have hconv := run_bytes_of_string (P := Try.prog) w 9 27 5 s Try.underlying9 Try.underlying27 Try.underlying5
  have hbb : Below w.heap.size w (w.drew.alloc (.cells (bytesRow s (grownCap w s.size 0 5)) 5 ((bytesRow s (grownCap w s.size 0 5)).size, (bytesRow s (grownCap w s.size 0 5)).size + 1))) := ((Below.refl _ _).drew).alloc (Nat.le_refl _) _
  have hcell : ∀ k (h : k < s.size), (w.drew.alloc (.cells (bytesRow s (grownCap w s.size 0 5)) 5 ((bytesRow s (grownCap w s.size 0 5)).size, (bytesRow s (grownCap w s.size 0 5)).size + 1))).cell? ⟨w.heap.size, k, none⟩ = some (.int .u8 s[k].toNat) := fun k h => by
    rw [show w.heap.size = w.drew.heap.size from rfl, World.cell?_alloc_mark]; exact bytesRow_get s _ k h
  have Hb := Lib.hid hbb
  have Hc := Lib.hid hcell
  clear hbb hcell
  generalize (w.drew.alloc (.cells (bytesRow s (grownCap w s.size 0 5)) 5 ((bytesRow s (grownCap w s.size 0 5)).size, (bytesRow s (grownCap w s.size 0 5)).size + 1))) = w1 at *
  go_enter Try.func21, Try.ntmps21
  go_wp2
  go_loop [12] (fun i => ∃ k : Nat, k ≤ s.size ∧ i = .int .i64 k ∧ (s.data.toList.take k).all okc = true) (fun i => s.size - (intOf i).toNat)
  case atStart => exact ⟨0, Nat.zero_le _, rfl, by simp⟩
  case round =>
    obtain ⟨k, hk, rfl, hok⟩ := hrel
    have Hok := Lib.hid hok
    clear hok hconv
    by_cases hlt : k < s.size
    · have hz := Hc.out k hlt
      go_wp2
      all_goals first
        | (have hb : okc s[k] = false := by (rw [okc_no]; have h1 := ‹((s[k].toNat : Int) == 45) = false›; have h2 := ‹((s[k].toNat : Int) == 95) = false›; simp at h1 h2; omega)
           go_ret
           exact ⟨ret_bool (wordB_bad hlt hb).symm, Hb.out⟩)
        | (have hb : okc s[k] = true := by (rw [okc_iff]; first | omega | (have hd := ‹((s[k].toNat : Int) == 45) = true›; simp at hd; omega) | (have hd := ‹((s[k].toNat : Int) == 95) = true›; simp at hd; omega))
           go_round
           case rel => exact ⟨k + 1, by omega, by go_num, by rw [take_all s k hlt, Hok.out, hb]; rfl⟩
           case measure => simp [intOf]; omega)
    · by_cases hl : lo ≤ s.size
      · go_wp2
        go_ret
        exact ⟨ret_bool (by rw [wordB_all hlt Hok.out]; simp [hl]), Hb.out⟩
      · have hl' : decide (lo ≤ s.size) = false := by simpa using hl
        go_wp2
        go_ret
        exact ⟨ret_bool (by rw [wordB_all hlt Hok.out, hl']; rfl), Hb.out⟩
end Go.Proofs.Ytpfacfolocjidaa
