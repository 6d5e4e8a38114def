import Derived.Test.YtpfacfolocjidaaTheirs
import Derived.Test.YtpfacfolocjidaaAwake
namespace Go.Proofs.Ytpfacfolocjidaa
open Go.RowKit

theorem take_nil (s k : Int) (d : List UInt8) : (∃ x, k = 50 ∧ takeS [] s k d = ⟨s, 50, [2], ⟨#[]⟩, 0, [(s, x)]⟩) ∨ takeS [] s k d = ⟨0, 0, [], ⟨#[]⟩, 2, []⟩ ∨ takeS [] s k d = ⟨0, 0, [], ⟨#[]⟩, 7, []⟩ := by
  have hi : idx s [] < 0 := by simp [idx]
  unfold takeS
  by_cases h1 : k = 51 ∨ k = 53
  · rw [if_pos h1, if_pos hi]; exact .inr (.inr rfl)
  · rw [if_neg h1]
    by_cases h50 : k = 50
    · rw [if_neg (by simpa using h50)]
      by_cases hd : d = [2]
      · rw [if_pos hd, if_pos hi]; exact .inr (.inr rfl)
      · rw [if_neg hd]
        cases labS d with
        | none => exact .inr (.inl rfl)
        | some x =>
          have hE : openE s x [] = 0 := by simp [openE, fnd, idx]
          simp only [hE, if_true]
          exact .inl ⟨x, h50, rfl⟩
    · rw [if_pos (by simpa using h50)]; exact .inr (.inl rfl)

theorem bk_new (w : World) (base : Nat) (h : base ≤ w.heap.size) : Bk 59 74 (w.alloc (.cells #[.slice none 0 0] 59)) base w.heap.size (.slice none 0 0) [] := ⟨heap_alloc_new _ _, h, World.ownsRow_nil _ _ _ _⟩
theorem Fr.base {w w' : World} {base b : Nat} {v : Value} (f : Fr w w' b v) (hb : base ≤ b) (hv : ∀ k, v.ownBlock = some k → base ≤ k) (h0 : base ≤ w.heap.size) : Below base w w' := f.below hb hv h0

set_option maxHeartbeats 1000000 in
set_option maxRecDepth 100000 in
theorem c6 (s k : Int) (A : Option Addr) (c : Nat) (d : List UInt8) (w : World) (hB : Byts w A d) (hl : d.length ≤ 140737488351232) :
    Calls Try.prog 6 #[.agg #[.int .u16 s, .int .u32 k, .slice A d.length c]] w fun e w' => e = .returned (.bool true) ∧ Below w.heap.size w w' := by
  have HBd := Lib.hid hB
  have hG := Blk.new w 38 #[.int .u16 s, .int .u32 k, .slice A d.length c]
  have hb0 := (Below.refl w.heap.size w).alloc (Nat.le_refl _) (.cells #[.int .u16 s, .int .u32 k, .slice A d.length c] 38)
  clear hB
  go_enter Try.func6, Try.ntmps6
  go_wp2_with fail
  refine (c8 _).mono ?_
  rintro e w1 ⟨rfl, hb1⟩
  have hG1 := hG.below hb1 (by simp)
  have hb1' := hb0.trans (hb1.mono hb0.size)
  clear hG hb0 hb1
  go_wp2_with fail
  refine (c9 _).mono ?_
  rintro e w2 ⟨rfl, rfl⟩
  have hs1 := hb1'.size
  have hk2 := bk_new w1 w1.heap.size (Nat.le_refl _)
  have hG2 := hG1.below ((Below.refl _ _).alloc (Nat.le_refl _) (.cells #[.slice none 0 0] 59)) hG1.lt
  have hb2 := hb1'.alloc hs1 (.cells #[.slice none 0 0] 59)
  have hlt1 := hG1.lt
  obtain ⟨m0, m1, m2, _, _, _, mlt⟩ := hG2.three
  clear hb1' hG1
  go_wp2_with fail
  refine (c15 s k A c d _ (HBd.out.below hb2 (Nat.le_refl _)) hl).mono ?_
  rintro e w3 ⟨v3, rfl, hO3, hb3⟩
  obtain ⟨A3, c3, rfl⟩ := own_form hO3
  have hk3 := hk2.below hb3 (Nat.le_refl _)
  have hG3 := hG2.below hb3 hG2.lt
  have hb3' := hb2.trans (hb3.mono hb2.size)
  clear hk2 hG2 hb2 hb3 m0 m1 m2 mlt
  go_wp2_with fail
  refine (c14 s k A3 c3 d _ _ _ _ _ hk3 (by simp) (Byts.of_own hO3) hl).mono ?_
  rintro e w4 ⟨v4, A4, c4, hk4, f4, _, rfl, hB4, _, hO4⟩
  have hs3 := hb3'.size
  have hb4 := f4.below (B := w1.heap.size) (Nat.le_refl _) (fun k h => by simp [Value.ownBlock] at h) (by have := hk3.lt; omega)
  have hG4 := hG3.below hb4 hlt1
  have hb4' := hb3'.trans (hb4.mono hs1)
  clear hk3 hG3 hb3' hb4 f4 hO3
  have hB5 : ∀ O, Byts (w4.alloc O) A4 (takeS [] s k d).d := fun O => hB4.alloc O
  have hk5 : ∀ O, Bk 59 74 (w4.alloc O) w1.heap.size w1.heap.size v4 (takeS [] s k d).cs := fun O => hk4.below ((Below.refl _ _).alloc (Nat.le_refl _) O) (Nat.le_refl _)
  have hb5 : ∀ O, Below w.heap.size w (w4.alloc O) := fun O => hb4'.alloc hb4'.size O
  have hG5 : ∀ O, Blk (w4.alloc O) w.heap.size 38 #[.int .u16 s, .int .u32 k, .slice A d.length c] := fun O => hG4.below ((Below.refl _ _).alloc (Nat.le_refl _) O) hG4.lt
  clear hk4 hB4 hb4' hO4
  obtain ⟨m0, m1, m2, _, _, _, mlt⟩ := hG4.three
  rcases take_nil s k d with ⟨x, rfl, ht⟩ | ht | ht
  · rw [ht] at hB5 hk5 ⊢
    have HB5 := Lib.hid hB5
    have HK5 := Lib.hid hk5
    have Hb5 := Lib.hid hb5
    have HG5 := Lib.hid hG5
    clear hB5 hk5 hb5 hG5 ht
    obtain ⟨g, o, rfl, hg, hc⟩ := HB5.out (.cells #[.int .u16 s, .int .u32 50, .slice A4 1 c4] 29) (by simp)
    have hc0 := hc 0 (by simp)
    simp only [Nat.add_zero] at hc0
    have hc0' : (w4.alloc (.cells #[.int .u16 s, .int .u32 50, .slice (some ⟨g, o, none⟩) 1 c4] 29)).cell? ⟨g, o, none⟩ = some (.int .u8 2) := hc0
    clear hc hc0
    go_wp2_with fail
    refine (c11 _ _ _ _ _ (HK5.out _)).mono ?_
    rintro e w6 ⟨rfl, rfl⟩
    clear hc0'
    go_wp2
    go_ret
    exact ⟨rfl, Hb5.out _⟩
  · rw [ht] at hB5 hk5 ⊢
    have HK5 := Lib.hid hk5
    have Hb5 := Lib.hid hb5
    clear hB5 hk5 hb5 hG5 ht
    go_wp2_with fail
    refine (c11 _ _ _ _ _ (HK5.out _)).mono ?_
    rintro e w6 ⟨rfl, rfl⟩
    go_wp2
    go_ret
    exact ⟨rfl, Hb5.out _⟩
  · rw [ht] at hB5 hk5 ⊢
    have HK5 := Lib.hid hk5
    have Hb5 := Lib.hid hb5
    clear hB5 hk5 hb5 hG5 ht
    go_wp2_with fail
    refine (c11 _ _ _ _ _ (HK5.out _)).mono ?_
    rintro e w6 ⟨rfl, rfl⟩
    go_wp2
    go_ret
    exact ⟨rfl, Hb5.out _⟩
end Go.Proofs.Ytpfacfolocjidaa
