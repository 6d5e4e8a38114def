/- a number that was laid in is told; nothing else has turned. -/
import Derived.Test.YtikigghknbaleaaFrI
namespace Go.Proofs.Ytikigghknbaleaa
open Go.RowKit
set_option linter.unusedSimpArgs false

theorem tb128 (c : UInt8) : tb c 128 = decide ((128 : Int) ≤ c.toNat) := and128 c
theorem byteOf_nat {m : Int} (h0 : 0 ≤ m) (h1 : m < 256) : ((byteOf m).toNat : Int) = m := by
  have := bv_byteOf h0 h1
  unfold bv at this
  injection this
theorem vp_parts {b : List UInt8} {n s t : Int} (h : vpR b = (n, s, t, true)) (hs : s ≠ 0) : ∃ b0 b1 b2 r, b = b0 :: b1 :: b2 :: r ∧ tb b0 128 = true ∧ tb b1 128 = true ∧ tb b2 128 = decide (s = 2) ∧ (s = 1 ∨ s = 2) := by
  rcases b with _ | ⟨b0, _ | ⟨b1, _ | ⟨b2, r⟩⟩⟩
  · simp [vpR] at h
  · simp only [vpR] at h
    split at h <;> simp at h
  · simp only [vpR] at h
    repeat' split at h
    all_goals (simp at h; try omega)
  · refine ⟨b0, b1, b2, r, rfl, ?_⟩
    simp only [vpR] at h
    repeat' split at h
    all_goals (simp only [Prod.mk.injEq] at h; obtain ⟨-, h2, -⟩ := h; subst h2)
    all_goals first
      | exact absurd rfl hs
      | (simp_all; done)
theorem vpR_three {b0 b1 b2 x : UInt8} {r : List UInt8} (hx : tb x 128 = tb b2 128) : vpR (b0 :: b1 :: x :: r) = vpR (b0 :: b1 :: b2 :: r) := by
  simp only [vpR, hx, List.length_cons]
theorem vpR_four {b0 b1 b2 x y z : UInt8} {r : List UInt8} (hx : tb x 128 = tb b2 128) : vpR (b0 :: b1 :: x :: y :: r) = vpR (b0 :: b1 :: b2 :: z :: r) := by
  simp only [vpR, hx, List.length_cons]
theorem setS_eq {b : List UInt8} {n x s t : Int} {ok : Bool} (h : vpR b = (x, s, t, ok)) : setS b n = if ok = false ∨ s = 0 then b else if s = 1 then b.set 2 (byteOf (n % 128)) else (b.set 2 (byteOf (128 + n / 256 % 128))).set 3 (byteOf (n % 256)) := by simp only [setS, h]
/-- what a laying-in does, in three cases -/
theorem set_ways (b : List UInt8) (n : Int) (_h0 : 0 ≤ n) :
    ((picS b).2.2 = false ∧ setS b n = b) ∨
    (∃ b0 b1 b2 r t, b = b0 :: b1 :: b2 :: r ∧ vpR b = (2, 1, t, true) ∧ tb b2 128 = false ∧ setS b n = b0 :: b1 :: byteOf (n % 128) :: r ∧ vpR (setS b n) = (2, 1, t, true)) ∨
    (∃ b0 b1 b2 b3 r t, b = b0 :: b1 :: b2 :: b3 :: r ∧ vpR b = (2, 2, t, true) ∧ tb b2 128 = true ∧ setS b n = b0 :: b1 :: byteOf (128 + n / 256 % 128) :: byteOf (n % 256) :: r ∧ vpR (setS b n) = (2, 2, t, true)) := by
  rcases hv : vpR b with ⟨x, s, t, ok⟩
  have hS : setS b n = if ok = false ∨ s = 0 then b else if s = 1 then b.set 2 (byteOf (n % 128)) else (b.set 2 (byteOf (128 + n / 256 % 128))).set 3 (byteOf (n % 256)) := by simp only [setS, hv]
  have hP : picS b = if ok = false ∨ s = 0 then (0, 0, false) else if s = 1 then (((gb b 2).toNat : Int), 7, true) else (((gb b 2).toNat % 128 * 256 + (gb b 3).toNat : Nat), 15, true) := by simp only [picS, hv]
  by_cases hc : ok = false ∨ s = 0
  · exact .inl ⟨by rw [hP, if_pos hc], by rw [hS, if_pos hc]⟩
  · have hok : ok = true := by cases ok with | true => rfl | false => exact absurd (.inl rfl) hc
    subst hok
    have hs0 : s ≠ 0 := fun h => hc (.inr h)
    obtain ⟨k, rfl, hk, hcase⟩ := vpR_lt hv
    obtain ⟨b0, b1, b2, r, rfl, _, _, h2, h12⟩ := vp_parts hv hs0
    rw [if_neg hc] at hS
    rcases h12 with rfl | rfl
    · have hx : x = 2 := by rcases hcase with h | ⟨_, h, _⟩ | ⟨h, _⟩ <;> first | exact h | omega
      subst hx
      have e : setS (b0 :: b1 :: b2 :: r) n = b0 :: b1 :: byteOf (n % 128) :: r := hS
      have htb : tb (byteOf (n % 128)) 128 = tb b2 128 := by
        rw [h2, tb128, byteOf_nat (by omega) (by omega), decide_eq_false (by omega)]; rfl
      refine .inr (.inl ⟨b0, b1, b2, r, _, rfl, rfl, by rw [h2]; rfl, e, ?_⟩)
      rw [e, vpR_three htb, hv]
    · obtain ⟨hx, h3⟩ : x = 2 ∧ 3 < (b0 :: b1 :: b2 :: r).length := by rcases hcase with h | ⟨h, _⟩ | ⟨_, h, h'⟩ <;> first | exact ⟨h, h'⟩ | omega
      subst hx
      rcases r with _ | ⟨b3, r⟩
      · simp at h3
      have e : setS (b0 :: b1 :: b2 :: b3 :: r) n = b0 :: b1 :: byteOf (128 + n / 256 % 128) :: byteOf (n % 256) :: r := hS
      have htb : tb (byteOf (128 + n / 256 % 128)) 128 = tb b2 128 := by
        rw [h2, tb128, byteOf_nat (by omega) (by omega), decide_eq_true (by omega)]; rfl
      refine .inr (.inr ⟨b0, b1, b2, b3, r, _, rfl, rfl, by rw [h2]; rfl, e, ?_⟩)
      rw [e, vpR_four htb, hv]
theorem begB_same (c : UInt8) (r r' : List UInt8) : begB (c :: r) = begB (c :: r') := by rw [begB_cons, begB_cons]
theorem low_same {b b' : List UInt8} {k : Nat} (h : b.getD k 0 = b'.getD k 0) : lowB b k = lowB b' k := by simp only [lowB, Int.toNat_natCast, h]
theorem vp_at1 {b0 b1 b2 : UInt8} {r : List UInt8} {t : Int} (h : vpR (b0 :: b1 :: b2 :: r) = (2, 1, t, true)) : 3 ≤ t := by
  have x1 : ∀ c, 0 ≤ vpX c := fun c => by unfold vpX; repeat' split <;> omega
  have := x1 b1
  simp only [vpR] at h
  repeat' split at h
  all_goals (simp only [Prod.mk.injEq] at h; omega)
theorem vp_at2 {b0 b1 b2 : UInt8} {r : List UInt8} {t : Int} (h : vpR (b0 :: b1 :: b2 :: r) = (2, 2, t, true)) : 4 ≤ t := by
  have x1 : ∀ c, 0 ≤ vpX c := fun c => by unfold vpX; repeat' split <;> omega
  have := x1 b1
  simp only [vpR] at h
  repeat' split at h
  all_goals (simp only [Prod.mk.injEq] at h; omega)
theorem beg_set (b : List UInt8) (n : Int) (h0 : 0 ≤ n) : begS (setS b n) = begS b := by
  rcases set_ways b n h0 with ⟨_, e⟩ | ⟨b0, b1, b2, r, t, rfl, hv, _, e, hv'⟩ | ⟨b0, b1, b2, b3, r, t, rfl, hv, _, e, hv'⟩
  · rw [e]
  · obtain ⟨k, rfl, hk, _⟩ := vpR_lt hv
    have h3 := vp_at1 hv
    rw [begS, begS, hv, hv', e]
    simp only []
    rw [begB_same b0 _ (b1 :: b2 :: r), low_same (b' := b0 :: b1 :: b2 :: r)]
    obtain ⟨m, rfl⟩ : ∃ m, k = m + 3 := ⟨k - 3, by omega⟩
    simp [List.getD_eq_getElem?_getD]
  · obtain ⟨k, rfl, hk, _⟩ := vpR_lt hv
    have h3 := vp_at2 hv
    rw [begS, begS, hv, hv', e]
    simp only []
    rw [begB_same b0 _ (b1 :: b2 :: b3 :: r), low_same (b' := b0 :: b1 :: b2 :: b3 :: r)]
    obtain ⟨m, rfl⟩ : ∃ m, k = m + 4 := ⟨k - 4, by omega⟩
    simp [List.getD_eq_getElem?_getD]
theorem begins_set (b : List UInt8) (n : Int) (h0 : 0 ≤ n) : beginsS ⟨#[86, 80, 56]⟩ (setS b n) = beginsS ⟨#[86, 80, 56]⟩ b := by
  have h : isV ⟨#[86, 80, 56]⟩ = true := by unfold isV; rw [ByteArray.toList_eq]; rfl
  simp only [beginsS, h, if_true, beg_set b n h0]
/-- told again, and laid back -/
theorem pic_set (b : List UInt8) (n : Int) (h0 : 0 ≤ n) : ((picS b).2.2 = false ∧ setS b n = b) ∨
    ((picS b).2 = (7, true) ∧ picS (setS b n) = (n % 128, 7, true) ∧ setS (setS b n) (picS b).1 = b ∧ 0 ≤ (picS b).1 ∧ (picS b).1 ≤ 65535) ∨
    ((picS b).2 = (15, true) ∧ picS (setS b n) = (n % 32768, 15, true) ∧ setS (setS b n) (picS b).1 = b ∧ 0 ≤ (picS b).1 ∧ (picS b).1 ≤ 65535) := by
  rcases set_ways b n h0 with h | ⟨b0, b1, b2, r, t, rfl, hv, ht, e, hv'⟩ | ⟨b0, b1, b2, b3, r, t, rfl, hv, ht, e, hv'⟩
  · exact .inl h
  · have hP : picS (b0 :: b1 :: b2 :: r) = ((b2.toNat : Int), 7, true) := by simp [picS, hv, gb]
    have hb2 : (b2.toNat : Int) < 128 := by
      rw [tb128] at ht; simpa using ht
    have hP' : picS (setS (b0 :: b1 :: b2 :: r) n) = (n % 128, 7, true) := by
      simp only [picS, hv']
      rw [e]
      simp [gb, byteOf_nat (m := n % 128) (by omega) (by omega)]
    refine .inr (.inl ⟨by rw [hP], hP', ?_, by rw [hP]; simp only []; omega, by rw [hP]; simp only []; omega⟩)
    rw [hP]
    have hS : setS (setS (b0 :: b1 :: b2 :: r) n) b2.toNat = (setS (b0 :: b1 :: b2 :: r) n).set 2 (byteOf ((b2.toNat : Int) % 128)) := by
      rw [setS_eq hv']; simp
    rw [hS, e]
    have : byteOf ((b2.toNat : Int) % 128) = b2 := by
      unfold byteOf
      rw [show ((b2.toNat : Int) % 128).toNat = b2.toNat by omega]; simp
    rw [this]; rfl
  · have hb2 : (128 : Int) ≤ b2.toNat := by
      rw [tb128] at ht; simpa using ht
    have l2 := b2.toNat_lt
    have l3 := b3.toNat_lt
    have hP : picS (b0 :: b1 :: b2 :: b3 :: r) = (((b2.toNat % 128 * 256 + b3.toNat : Nat) : Int), 15, true) := by simp [picS, hv, gb]
    have hP' : picS (setS (b0 :: b1 :: b2 :: b3 :: r) n) = (n % 32768, 15, true) := by
      simp only [picS, hv']
      rw [e]
      have e1 : ((byteOf (128 + n / 256 % 128)).toNat : Int) = 128 + n / 256 % 128 := byteOf_nat (by omega) (by omega)
      have e2 : ((byteOf (n % 256)).toNat : Int) = n % 256 := byteOf_nat (by omega) (by omega)
      simp [gb]
      omega
    refine .inr (.inr ⟨by rw [hP], hP', ?_, by rw [hP]; simp only []; omega, by rw [hP]; simp only []; omega⟩)
    rw [hP]
    generalize hm : ((b2.toNat % 128 * 256 + b3.toNat : Nat) : Int) = m
    have hS : setS (setS (b0 :: b1 :: b2 :: b3 :: r) n) m = ((setS (b0 :: b1 :: b2 :: b3 :: r) n).set 2 (byteOf (128 + m / 256 % 128))).set 3 (byteOf (m % 256)) := by
      rw [setS_eq hv']; simp
    simp only []
    rw [hS, e]
    have e1 : byteOf (128 + m / 256 % 128) = b2 := by
      unfold byteOf
      rw [show (128 + m / 256 % 128).toNat = b2.toNat by omega]; simp
    have e2 : byteOf (m % 256) = b3 := by
      unfold byteOf
      rw [show (m % 256).toNat = b3.toNat by omega]; simp
    rw [e1, e2]; rfl
end Go.Proofs.Ytikigghknbaleaa
