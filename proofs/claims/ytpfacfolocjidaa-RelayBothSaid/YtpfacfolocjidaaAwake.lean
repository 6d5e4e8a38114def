import Derived.Test.YtpfacfolocjidaaBkOpen
namespace Go.Proofs.Ytpfacfolocjidaa
open Go.RowKit
def chat : ByteArray := ⟨#[99, 104, 97, 116]⟩
theorem chat_word : wordB ⟨#[99, 104, 97, 116]⟩ 1 32 = true := by decide +kernel
theorem openEE_nil (s : Int) (x : ByteArray) (h : wordB x 1 32 = true) : openEE s x [] = 0 := by
  simp [openEE, h, openE, fnd, idx]
theorem fnd_one (s : Int) (x : ByteArray) : fnd x ([] ++ [(s, x)]) = some s := by simp [fnd]

set_option maxHeartbeats 1000000 in
theorem c8 (w : World) : Calls Try.prog 8 #[] w fun e w' => e = .returned (.bool true) ∧ Below w.heap.size w w' := by
  have hE := Lib.hid (openEE_nil 3 ⟨#[99, 104, 97, 116]⟩ chat_word)
  go_enter Try.func8, Try.ntmps8
  go_wp2_with fail
  refine (c9 _).mono ?_
  rintro e w1 ⟨rfl, rfl⟩
  have hB : Bk 59 74 (w.alloc (.cells #[.slice none 0 0] 59)) w.heap.size w.heap.size (.slice none 0 0) [] := ⟨heap_alloc_new _ _, Nat.le_refl _, World.ownsRow_nil _ _ _ _⟩
  go_wp2_with fail
  refine (c10 3 ⟨#[99, 104, 97, 116]⟩ _ _ _ _ _ (by decide) (by simp) hB).mono ?_
  rintro e w2 ⟨v', D, hB2, f2, _, rfl, hD⟩
  rw [if_pos hE.out] at hB2
  have hb2 : Below w.heap.size w w2 := ((Below.refl _ _).alloc (Nat.le_refl _) _).trans (f2.below (Nat.le_refl _) (fun k h => by simp [Value.ownBlock] at h) (by simp))
  simp only [hE.out, if_true] at hD ⊢
  obtain ⟨A, c, rfl⟩ := own_form hD
  have hs2 := hb2.size
  have hB3 := hB2.below ((Below.refl _ _).alloc (Nat.le_refl _) (.cells #[.int .u16 3, .int .u32 50, .slice A (openD ⟨#[99, 104, 97, 116]⟩).length c] 29)) (Nat.le_refl _)
  have hf := fnd_one 3 ⟨#[99, 104, 97, 116]⟩
  have hb3 := (hb2.alloc hb2.size (.cells #[.int .u16 3, .int .u32 50, .slice A (openD ⟨#[99, 104, 97, 116]⟩).length c] 29))
  have hl : (((openD ⟨#[99, 104, 97, 116]⟩).length : Int) == 16) = true := by decide +kernel
  have Hb2 := Lib.hid hb3
  clear hb2 hD hB2 f2 hB
  go_wp2_with fail
  refine (c19 ⟨#[99, 104, 97, 116]⟩ _ _ _ _ _ (by simp) hB3).mono ?_
  rintro e w3 ⟨rfl, hb⟩
  have hcell := (Blk.new w2 29 #[.int .u16 3, .int .u32 50, .slice A (openD ⟨#[99, 104, 97, 116]⟩).length c]).below hb (by simp)
  obtain ⟨a0, a1, a2, f0, f1, f2, hlt8⟩ := hcell.three
  rw [hf]
  have HB := Lib.hid (Hb2.out.trans (hb.mono Hb2.out.size))
  clear hb hB3 hcell Hb2 hf
  go_wp2
  go_ret
  exact ⟨rfl, HB.out⟩
end Go.Proofs.Ytpfacfolocjidaa
