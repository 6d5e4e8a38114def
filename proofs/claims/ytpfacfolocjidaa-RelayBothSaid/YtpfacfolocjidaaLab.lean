import Derived.Test.YtpfacfolocjidaaRefOpen
namespace Go.Proofs.Ytpfacfolocjidaa
open Go.RowKit

/-- the label of an OPEN's data, if the data are an OPEN's -/
def labT (a0 a1 a4 a5 a6 a7 a8 a9 a10 a11 : UInt8) (t : List UInt8) : Option ByteArray :=
  if a0 = 3 ∧ a1 = 0 ∧ a4 = 0 ∧ a5 = 0 ∧ a6 = 0 ∧ a7 = 0 ∧ numL [a8, a9] + numL [a10, a11] = t.length ∧ wordB ⟨(t.take (numL [a8, a9])).toArray⟩ 1 32 = true then some ⟨(t.take (numL [a8, a9])).toArray⟩ else none
def labS : List UInt8 → Option ByteArray
  | a0 :: a1 :: _ :: _ :: a4 :: a5 :: a6 :: a7 :: a8 :: a9 :: a10 :: a11 :: t => labT a0 a1 a4 a5 a6 a7 a8 a9 a10 a11 t
  | _ => none
theorem labS_short {d : List UInt8} (h : d.length < 12) : labS d = none := by
  unfold labS
  split
  · simp at h; omega
  · rfl
theorem long {d : List UInt8} (h : 12 ≤ d.length) : ∃ a0 a1 a2 a3 a4 a5 a6 a7 a8 a9 a10 a11 t, d = a0 :: a1 :: a2 :: a3 :: a4 :: a5 :: a6 :: a7 :: a8 :: a9 :: a10 :: a11 :: t := by
  match d, h with
  | a0 :: a1 :: a2 :: a3 :: a4 :: a5 :: a6 :: a7 :: a8 :: a9 :: a10 :: a11 :: t, _ => exact ⟨_, _, _, _, _, _, _, _, _, _, _, _, _, rfl⟩

/-- by the reader -/
structure LabR where
  h : List UInt8
  rest : List UInt8
  s : List UInt8
  r : RS
def labR (d : List UInt8) : LabR :=
  let x1 := cutS 2 (d, false)
  let x2 := cutS 2 x1.2
  let x3 := cutS 4 x2.2
  let x4 := cutS 2 x3.2
  let x5 := cutS 2 x4.2
  let x6 := cutS (numL x4.1) x5.2
  let x7 := cutS (numL x5.1) x6.2
  ⟨x1.1, x3.1, x6.1, x7.2⟩
def labOk (d : List UInt8) : Bool := !(labR d).r.2 && ((labR d).r.1.length : Int) == 0 && ((numL (labR d).h : Nat) : Int) == 768 && ((numL (labR d).rest : Nat) : Int) == 0 && wordB ⟨(labR d).s.toArray⟩ 1 32

theorem cutS_bad (n : Int) (l : List UInt8) : cutS n (l, true) = ([], (l, true)) := by simp [cutS]
theorem cutS_few {n : Int} {l : List UInt8} (h : (l.length : Int) < n) : cutS n (l, false) = ([], (l, true)) := by
  simp only [cutS]; rw [if_pos (by right; right; exact h)]
theorem cutS_ok {n : Int} {l : List UInt8} (h0 : 0 ≤ n) (h : n ≤ (l.length : Int)) : cutS n (l, false) = (l.take n.toNat, (l.drop n.toNat, false)) := by
  simp only [cutS]; rw [if_neg (by simp; omega)]
theorem labOk_short {d : List UInt8} (h : d.length < 12) : labOk d = false := by
  have hbad : (labR d).r.2 = true := by
    unfold labR
    simp only
    by_cases h1 : d.length < 2
    · simp only [cutS_few (n := 2) (l := d) (by omega), cutS_bad]
    · rw [cutS_ok (n := 2) (l := d) (by omega) (by omega)]
      simp only [show (2 : Int).toNat = 2 from rfl]
      by_cases h2 : d.length < 4
      · simp only [cutS_few (n := 2) (l := d.drop 2) (by simp; omega), cutS_bad]
      · rw [cutS_ok (n := 2) (l := d.drop 2) (by omega) (by simp; omega)]
        simp only [List.drop_drop, show (2 : Int).toNat = 2 from rfl]
        by_cases h3 : d.length < 8
        · simp only [cutS_few (n := 4) (l := d.drop (2 + 2)) (by simp; omega), cutS_bad]
        · rw [cutS_ok (n := 4) (l := d.drop (2 + 2)) (by omega) (by simp; omega)]
          simp only [List.drop_drop, show (4 : Int).toNat = 4 from rfl]
          by_cases h4 : d.length < 10
          · simp only [cutS_few (n := 2) (l := d.drop (2 + 2 + 4)) (by simp; omega), cutS_bad]
          · rw [cutS_ok (n := 2) (l := d.drop (2 + 2 + 4)) (by omega) (by simp; omega)]
            simp only [List.drop_drop, show (2 : Int).toNat = 2 from rfl]
            simp only [cutS_few (n := 2) (l := d.drop (2 + 2 + 4 + 2)) (by simp; omega), cutS_bad]
  simp [labOk, hbad]
theorem numL_two (a b : UInt8) : numL [a, b] = a.toNat * 256 + b.toNat := by simp [numL]
theorem numL_four (a b c d : UInt8) : numL [a, b, c, d] = ((a.toNat * 256 + b.toNat) * 256 + c.toNat) * 256 + d.toNat := by simp [numL]
theorem labR_long (a0 a1 a2 a3 a4 a5 a6 a7 a8 a9 a10 a11 : UInt8) (t : List UInt8) : labR (a0 :: a1 :: a2 :: a3 :: a4 :: a5 :: a6 :: a7 :: a8 :: a9 :: a10 :: a11 :: t) =
    ⟨[a0, a1], [a4, a5, a6, a7], (cutS (numL [a8, a9]) (t, false)).1, (cutS (numL [a10, a11]) (cutS (numL [a8, a9]) (t, false)).2).2⟩ := by
  unfold labR
  simp only
  rw [cutS_ok (n := 2) (by omega) (by simp; omega)]
  simp only [show (2 : Int).toNat = 2 from rfl, List.take_succ_cons, List.take_zero, List.drop_succ_cons, List.drop_zero]
  rw [cutS_ok (n := 2) (by omega) (by simp; omega)]
  simp only [show (2 : Int).toNat = 2 from rfl, List.drop_succ_cons, List.drop_zero]
  rw [cutS_ok (n := 4) (by omega) (by simp; omega)]
  simp only [show (4 : Int).toNat = 4 from rfl, List.take_succ_cons, List.take_zero, List.drop_succ_cons, List.drop_zero]
  rw [cutS_ok (n := 2) (by omega) (by simp; omega)]
  simp only [show (2 : Int).toNat = 2 from rfl, List.take_succ_cons, List.take_zero, List.drop_succ_cons, List.drop_zero]
  rw [cutS_ok (n := 2) (by omega) (by simp; omega)]
  simp only [show (2 : Int).toNat = 2 from rfl, List.take_succ_cons, List.take_zero, List.drop_succ_cons, List.drop_zero]
theorem u8_eq (a : UInt8) (n : Nat) (h : n < 256) : a = UInt8.ofNat n ↔ a.toNat = n := by
  rw [← UInt8.toNat_inj, UInt8.toNat_ofNat', Nat.mod_eq_of_lt (by simpa using h)]
theorem labOk_eq (d : List UInt8) : labOk d = (labS d).isSome ∧ ∀ y, labS d = some y → (⟨(labR d).s.toArray⟩ : ByteArray) = y := by
  by_cases h : d.length < 12
  · rw [labOk_short h, labS_short h]
    exact ⟨rfl, fun y hy => by cases hy⟩
  · obtain ⟨a0, a1, a2, a3, a4, a5, a6, a7, a8, a9, a10, a11, t, rfl⟩ := long (by omega : 12 ≤ d.length)
    have hR := labR_long a0 a1 a2 a3 a4 a5 a6 a7 a8 a9 a10 a11 t
    simp only [labOk, hR, labS, labT, numL_four]
    rw [show numL [a0, a1] = a0.toNat * 256 + a1.toNat from numL_two _ _]
    have e0 := u8_eq a0 3 (by omega)
    have e1 := u8_eq a1 0 (by omega)
    have e4 := u8_eq a4 0 (by omega)
    have e5 := u8_eq a5 0 (by omega)
    have e6 := u8_eq a6 0 (by omega)
    have e7 := u8_eq a7 0 (by omega)
    have l0 := a0.toNat_lt
    have l1 := a1.toNat_lt
    generalize numL [a8, a9] = n
    generalize numL [a10, a11] = k
    by_cases hn : n ≤ t.length
    · rw [cutS_ok (n := (n : Int)) (l := t) (by omega) (by omega)]
      simp only [Int.toNat_natCast]
      by_cases hk : k ≤ (t.drop n).length
      · rw [cutS_ok (n := (k : Int)) (by omega) (by omega)]
        simp only [Int.toNat_natCast]
        have hl : ((t.drop n).drop k).length = t.length - n - k := by simp; omega
        have hd := hk
        rw [List.length_drop] at hd
        constructor
        · rw [Bool.eq_iff_iff]
          simp only [Bool.and_eq_true, beq_iff_eq, hl]
          split
          · rename_i hh
            obtain ⟨h0, h1, h4, h5, h6, h7, hs, hw⟩ := hh
            subst h0 h1 h4 h5 h6 h7
            simp [hw]
            omega
          · rename_i hh
            simp only [Option.isSome_none, Bool.false_eq_true, iff_false]
            rintro ⟨⟨⟨⟨_, h2⟩, h3⟩, h4⟩, h5⟩
            apply hh
            exact ⟨e0.2 (by omega), e1.2 (by omega), e4.2 (by omega), e5.2 (by omega), e6.2 (by omega), e7.2 (by omega), by omega, h5⟩
        · intro y hy
          split at hy
          · injection hy
          · cases hy
      · rw [cutS_few (n := (k : Int)) (by omega)]
        rw [List.length_drop] at hk
        have : ¬ (a0 = 3 ∧ a1 = 0 ∧ a4 = 0 ∧ a5 = 0 ∧ a6 = 0 ∧ a7 = 0 ∧ n + k = t.length ∧ wordB ⟨(t.take n).toArray⟩ 1 32 = true) := by rintro ⟨_, _, _, _, _, _, h, _⟩; omega
        rw [if_neg this]
        exact ⟨by simp, fun y hy => by cases hy⟩
    · rw [cutS_few (n := (n : Int)) (by omega)]
      simp only [cutS_bad]
      have : ¬ (a0 = 3 ∧ a1 = 0 ∧ a4 = 0 ∧ a5 = 0 ∧ a6 = 0 ∧ a7 = 0 ∧ n + k = t.length ∧ wordB ⟨(t.take n).toArray⟩ 1 32 = true) := by rintro ⟨_, _, _, _, _, _, h, _⟩; omega
      rw [if_neg this]
      exact ⟨by simp, fun y hy => by cases hy⟩

def LabPost (d : List UInt8) (w : World) (e : Ending) (w' : World) : Prop :=
  ∃ x : ByteArray, e = .returned (.tuple #[.string x, .bool (labS d).isSome]) ∧ (∀ y, labS d = some y → x = y) ∧ Below w.heap.size w w'
theorem Fr.bnew {w w' : World} {p : Nat} (f : Fr w w' p (.slice none 0 0)) {B : Nat} (hp : B ≤ p) (hB : B ≤ w.heap.size) : Below B w w' :=
  f.below hp (fun k h => by simp [Value.ownBlock] at h) hB

set_option maxHeartbeats 1000000 in
set_option maxRecDepth 100000 in
theorem c33 (A : Option Addr) (c : Nat) (d : List UInt8) (w : World) (hB : Byts w A d) (hl : d.length ≤ 140737488351232) :
    Calls Try.prog 33 #[.slice A d.length c] w (LabPost d w) := by
  obtain ⟨hok, hlab⟩ := labOk_eq d
  have Hlab := Lib.hid hlab
  have Hok := Lib.hid hok
  clear hlab hok
  go_enter Try.func33, Try.ntmps33
  go_wp2_with fail
  refine (rd_new A c d w hB (by omega)).mono ?_
  rintro e w1 ⟨p, A1, c1, rfl, hp, hR, hb⟩
  go_wp2_with fail
  refine (rd_u16 p A1 c1 (d, false) w1 hR).mono ?_
  rintro e w2 ⟨A2, c2, rfl, hR2, f2⟩
  have hb2 := hb.trans (f2.bnew hp hb.size)
  clear hR hb f2
  obtain ⟨x1, hx1⟩ : ∃ x, x = cutS 2 (d, false) := ⟨_, rfl⟩
  rw [← hx1] at hR2 ⊢
  have n1 := numL_lt x1.1
  have m1 : 256 ^ x1.1.length ≤ 256 ^ 2 := Nat.pow_le_pow_right (by omega) (by rw [hx1]; exact cutS_len _ _ 2 (by omega))
  have H1 := Lib.hid hx1
  clear hx1
  go_wp2_with fail
  refine (rd_u16 p A2 c2 x1.2 w2 hR2).mono ?_
  rintro e w3 ⟨A3, c3, rfl, hR3, f3⟩
  have hb3 := hb2.trans (f3.bnew hp hb2.size)
  clear hR2 hb2 f3
  obtain ⟨x2, hx2⟩ : ∃ x, x = cutS 2 x1.2 := ⟨_, rfl⟩
  rw [← hx2] at hR3 ⊢
  have H2 := Lib.hid hx2
  clear hx2
  go_wp2_with fail
  refine (rd_u32 p A3 c3 x2.2 w3 hR3).mono ?_
  rintro e w4 ⟨A4, c4, rfl, hR4, f4⟩
  have hb4 := hb3.trans (f4.bnew hp hb3.size)
  clear hR3 hb3 f4
  obtain ⟨x3, hx3⟩ : ∃ x, x = cutS 4 x2.2 := ⟨_, rfl⟩
  rw [← hx3] at hR4 ⊢
  have H3 := Lib.hid hx3
  clear hx3
  go_wp2_with fail
  refine (rd_u16 p A4 c4 x3.2 w4 hR4).mono ?_
  rintro e w5 ⟨A5, c5, rfl, hR5, f5⟩
  have hb5 := hb4.trans (f5.bnew hp hb4.size)
  clear hR4 hb4 f5
  obtain ⟨x4, hx4⟩ : ∃ x, x = cutS 2 x3.2 := ⟨_, rfl⟩
  rw [← hx4] at hR5 ⊢
  have n4 := numL_lt x4.1
  have m4 : 256 ^ x4.1.length ≤ 256 ^ 2 := Nat.pow_le_pow_right (by omega) (by rw [hx4]; exact cutS_len _ _ 2 (by omega))
  have H4 := Lib.hid hx4
  clear hx4
  go_wp2_with fail
  refine (rd_u16 p A5 c5 x4.2 w5 hR5).mono ?_
  rintro e w6 ⟨A6, c6, rfl, hR6, f6⟩
  have hb6 := hb5.trans (f6.bnew hp hb5.size)
  clear hR5 hb5 f6
  obtain ⟨x5, hx5⟩ : ∃ x, x = cutS 2 x4.2 := ⟨_, rfl⟩
  rw [← hx5] at hR6 ⊢
  have n5 := numL_lt x5.1
  have m5 : 256 ^ x5.1.length ≤ 256 ^ 2 := Nat.pow_le_pow_right (by omega) (by rw [hx5]; exact cutS_len _ _ 2 (by omega))
  have hl5 : x5.2.1.length ≤ 140737488351232 := by
    have h1 := cutS_left 2 (d, false)
    have h2 := cutS_left 2 x1.2
    have h3 := cutS_left 4 x2.2
    have h4 := cutS_left 2 x3.2
    have h5 := cutS_left 2 x4.2
    rw [← H1.out] at h1
    rw [← H2.out] at h2
    rw [← H3.out] at h3
    rw [← H4.out] at h4
    rw [← hx5] at h5
    have h1' : x1.2.1.length ≤ d.length := h1
    omega
  have H5 := Lib.hid hx5
  clear hx5
  have b1 : (numL x1.1 : Int) < 65536 := by omega
  have b4 : (numL x4.1 : Int) < 65536 := by omega
  have b5 : (numL x5.1 : Int) < 65536 := by omega
  clear n1 m1 n4 m4 n5 m5
  go_wp2_with fail
  refine (rd_take p (numL x4.1) A6 c6 x5.2 w6 hR6 (by omega) (by omega)).mono ?_
  rintro e w7 ⟨v7, A7, c7, rfl, hO7, hR7, f7⟩
  have hb7 := hb6.trans (f7.bnew hp hb6.size)
  obtain ⟨x6, hx6⟩ : ∃ x, x = cutS (numL x4.1) x5.2 := ⟨_, rfl⟩
  have hl6 := cutS_left (numL x4.1) x5.2
  have hl6' := cutS_le (numL x4.1) x5.2
  rw [← hx6] at hR7 hO7 hl6 hl6'
  have H6 := Lib.hid hx6
  obtain ⟨A8, c8, rfl⟩ := own_form hO7
  have hcv := conv_bytes (Byts.of_own hO7) c8
  clear hx6 hR6 hb6 f7 hO7
  go_wp2_with fail
  refine (rd_take p (numL x5.1) A7 c7 x6.2 w7 hR7 (by omega) (by omega)).mono ?_
  rintro e w8 ⟨v8, A9, c9, rfl, _, hR8, f8⟩
  have hb8 := hb7.trans (f8.bnew hp hb7.size)
  obtain ⟨x7, hx7⟩ : ∃ x, x = cutS (numL x5.1) x6.2 := ⟨_, rfl⟩
  rw [← hx7] at hR8
  have H7 := Lib.hid hx7
  clear hx7 hR7 hb7 f8 hcv
  have hfin : labR d = ⟨x1.1, x3.1, x6.1, x7.2⟩ := by
    simp only [labR]
    rw [← H1.out, ← H2.out, ← H3.out, ← H4.out, ← H5.out, ← H6.out, ← H7.out]
  have hOk : labOk d = (!x7.2.2 && ((x7.2.1.length : Int) == 0) && ((numL x1.1 : Int) == 768) && ((numL x3.1 : Int) == 0) && wordB ⟨x6.1.toArray⟩ 1 32) := by
    simp only [labOk, hfin]
  have P : ∀ b, b = (!x7.2.2 && ((x7.2.1.length : Int) == 0) && ((numL x1.1 : Int) == 768) && ((numL x3.1 : Int) == 0) && wordB ⟨x6.1.toArray⟩ 1 32) → ∀ w', Below w8.heap.size w8 w' → LabPost d w (.returned (.tuple #[.string ⟨x6.1.toArray⟩, .bool b])) w' := by
    intro b hb w' hbw
    refine ⟨_, by rw [hb, ← hOk, Hok.out], fun y hy => ?_, hb8.trans (hbw.mono hb8.size)⟩
    have := Hlab.out y hy
    rw [hfin] at this
    exact this
  have HP := Lib.hid P
  clear P hOk hfin hb8
  have hsz : (⟨x6.1.toArray⟩ : ByteArray).size ≤ maxLen := by show x6.1.length ≤ maxLen; unfold maxLen; omega
  clear H1 H2 H3 H4 H5 H6 H7 Hlab Hok hl5 hl6 hl6' b4 b5 hB
  generalize x7.2 = r7 at *
  obtain ⟨l7, bad7⟩ := r7
  generalize x6.1 = s6 at *
  generalize (numL x1.1 : Int) = q1 at *
  generalize (numL x3.1 : Int) = q3 at *
  cases bad7 with
  | true =>
    go_wp2_with (go_at_call 42; refine (rd_bad p A9 c9 (l7, true) _ hR8).mono ?_; rintro e w' ⟨rfl, rfl⟩)
    go_ret2
    exact HP.out _ (by simp) _ (Below.refl _ _)
  | false =>
    by_cases h0 : l7.length = 0
    · by_cases h1 : q1 = 768
      · by_cases h2 : q3 = 0
        · have e0 : ((l7.length : Int) == 0) = true := by simpa using h0
          have e1 : (q1 == 768) = true := by simpa using h1
          have e2 : (q3 == 0) = true := by simpa using h2
          clear h0 h1 h2
          go_wp2_with (first | (go_at_call 42; refine (rd_bad p A9 c9 (l7, false) _ hR8).mono ?_; rintro e w' ⟨rfl, rfl⟩) | (go_at_call 43; refine (rd_left p A9 c9 (l7, false) _ hR8).mono ?_; rintro e w' ⟨rfl, rfl⟩) | (go_at_call 21; refine (c21 _ _ _ _ hsz).mono ?_; rintro e w9 ⟨rfl, hb9⟩))
          go_ret2
          exact HP.out _ (by simp [e0, e1, e2]) _ hb9
        · have e0 : ((l7.length : Int) == 0) = true := by simpa using h0
          have e1 : (q1 == 768) = true := by simpa using h1
          have e2 : (q3 == 0) = false := by simpa using h2
          clear h0 h1 h2
          go_wp2_with (first | (go_at_call 42; refine (rd_bad p A9 c9 (l7, false) _ hR8).mono ?_; rintro e w' ⟨rfl, rfl⟩) | (go_at_call 43; refine (rd_left p A9 c9 (l7, false) _ hR8).mono ?_; rintro e w' ⟨rfl, rfl⟩))
          go_ret2
          exact HP.out _ (by simp [e2]) _ (Below.refl _ _)
      · have e0 : ((l7.length : Int) == 0) = true := by simpa using h0
        have e1 : (q1 == 768) = false := by simpa using h1
        clear h0 h1
        go_wp2_with (first | (go_at_call 42; refine (rd_bad p A9 c9 (l7, false) _ hR8).mono ?_; rintro e w' ⟨rfl, rfl⟩) | (go_at_call 43; refine (rd_left p A9 c9 (l7, false) _ hR8).mono ?_; rintro e w' ⟨rfl, rfl⟩))
        go_ret2
        exact HP.out _ (by simp [e1]) _ (Below.refl _ _)
    · have e0 : ((l7.length : Int) == 0) = false := by simpa using h0
      clear h0
      go_wp2_with (first | (go_at_call 42; refine (rd_bad p A9 c9 (l7, false) _ hR8).mono ?_; rintro e w' ⟨rfl, rfl⟩) | (go_at_call 43; refine (rd_left p A9 c9 (l7, false) _ hR8).mono ?_; rintro e w' ⟨rfl, rfl⟩))
      go_ret2
      exact HP.out _ (by simp [e0]) _ (Below.refl _ _)
end Go.Proofs.Ytpfacfolocjidaa
