/- tokens, plain: what stands between points. -/
import Derived.Test.YtakgdmcekhafoaaDoorToH
namespace Go.Proofs.YtakgdmcekhafoaaDoor
open Go.RowKit
set_option linter.unusedSimpArgs false

def valD (l : List UInt8) : Nat := l.foldl (fun n b => 10 * n + (b.toNat - 48)) 0
theorem valD_app (l : List UInt8) (b : UInt8) : valD (l ++ [b]) = 10 * valD l + (b.toNat - 48) := by simp [valD]
theorem dec_ind {P : Nat → Prop} (h1 : ∀ n, n < 10 → P n) (h2 : ∀ n, ¬ n < 10 → P (n / 10) → P n) : ∀ n, P n := fun n =>
  Nat.strongRecOn n fun n ih => by
    by_cases h : n < 10
    · exact h1 n h
    · exact h2 n h (ih (n / 10) (by omega))
theorem dec_small {n : Nat} (h : n < 10) : Lib.decDigits n = [UInt8.ofNat (48 + n)] := by rw [Lib.decDigits, dif_pos h]
theorem dec_big {n : Nat} (h : ¬ n < 10) : Lib.decDigits n = Lib.decDigits (n / 10) ++ [UInt8.ofNat (48 + n % 10)] := by rw [Lib.decDigits, dif_neg h]
theorem dig_nat {k : Nat} (h : k < 10) : (UInt8.ofNat (48 + k)).toNat = 48 + k := by
  rw [UInt8.toNat_ofNat']
  omega
theorem valD_dec (n : Nat) : valD (Lib.decDigits n) = n := by
  induction n using dec_ind with
  | h1 n h =>
    rw [dec_small h]
    show 10 * 0 + ((UInt8.ofNat (48 + n)).toNat - 48) = n
    rw [dig_nat h]
    omega
  | h2 n h ih =>
    rw [dec_big h, valD_app, ih, dig_nat (by omega)]
    omega
theorem dec_inj {m n : Nat} (h : Lib.decDigits m = Lib.decDigits n) : m = n := by rw [← valD_dec m, ← valD_dec n, h]
theorem dec_digits (n : Nat) : ∀ b ∈ Lib.decDigits n, 48 ≤ b.toNat ∧ b.toNat ≤ 57 := by
  induction n using dec_ind with
  | h1 n h =>
    intro b hb
    rw [dec_small h] at hb
    obtain rfl := List.mem_singleton.1 hb
    rw [dig_nat h]
    omega
  | h2 n h ih =>
    intro b hb
    rw [dec_big h] at hb
    rcases List.mem_append.1 hb with hb | hb
    · exact ih b hb
    · obtain rfl := List.mem_singleton.1 hb
      rw [dig_nat (by omega)]
      omega
theorem dec_pos (n : Nat) : 0 < (Lib.decDigits n).length := by
  induction n using dec_ind with
  | h1 n h => rw [dec_small h]; exact Nat.zero_lt_one
  | h2 n h ih => rw [dec_big h, List.length_append]; simp
theorem split46 : ∀ (a a' r r' : List UInt8), (∀ b ∈ a, b ≠ 46) → (∀ b ∈ a', b ≠ 46) → a ++ 46 :: r = a' ++ 46 :: r' → a = a' ∧ r = r'
  | [], [], r, r', _, _, h => by simpa using h
  | [], x :: a', r, r', _, h2, h => by
    simp only [List.nil_append, List.cons_append, List.cons.injEq] at h
    exact absurd h.1.symm (h2 x (by simp))
  | x :: a, [], r, r', h1, _, h => by
    simp only [List.nil_append, List.cons_append, List.cons.injEq] at h
    exact absurd h.1 (h1 x (by simp))
  | x :: a, y :: a', r, r', h1, h2, h => by
    simp only [List.cons_append, List.cons.injEq] at h
    obtain ⟨e1, e2⟩ := split46 a a' r r' (fun b hb => h1 b (by simp [hb])) (fun b hb => h2 b (by simp [hb])) h.2
    exact ⟨by rw [h.1, e1], e2⟩
theorem word46 {s : ByteArray} {lo hi : Int} (h : wordB s lo hi = true) : ∀ b ∈ ls s, b ≠ 46 := by
  intro b hb e
  subst e
  simp only [wordB, Bool.and_eq_true, List.all_eq_true] at h
  exact absurd (h.1.1 46 hb) (by decide)
theorem dec46 (n : Nat) : ∀ b ∈ Lib.decDigits n, b ≠ 46 := by
  intro b hb e
  subst e
  have := dec_digits n 46 hb
  exact absurd this (by decide)
theorem textC_dec {c : Cl} (h : goodC c = true) : textC c = ls c.room ++ 46 :: (ls c.user ++ 46 :: (Lib.decDigits c.til.toNat ++ 46 :: Lib.decDigits c.rights.toNat)) := by
  obtain ⟨g1, g2, g3, g4, g5, g6⟩ := (goodC_iff c).1 h
  have hr : Lib.itoa c.rights = Lib.decDigits c.rights.toNat := by unfold Lib.itoa; rw [if_neg (by omega)]
  have ht : Lib.itoa c.til = Lib.decDigits c.til.toNat := by unfold Lib.itoa; rw [if_neg (by omega)]
  unfold textC
  rw [hr, ht]
theorem makeR_good {c : Cl} (kb : List UInt8) (h : goodC c = true) : makeR kb c = (textC c ++ 46 :: hexOf (macS kb (textC c)), 0) := by
  unfold makeR
  rw [if_pos h]
theorem makeR_bad {c : Cl} (kb : List UInt8) (h : goodC c = false) : makeR kb c = ([], 1) := by
  unfold makeR
  rw [h]
  rfl
theorem tok_inj {kb : List UInt8} {c d : Cl} (hc : goodC c = true) (hd : goodC d = true) (h : (makeR kb c).1 = (makeR kb d).1) : c = d := by
  obtain ⟨g1, g2, g3, g4, g5, g6⟩ := (goodC_iff c).1 hc
  obtain ⟨f1, f2, f3, f4, f5, f6⟩ := (goodC_iff d).1 hd
  rw [makeR_good kb hc, makeR_good kb hd] at h
  simp only [textC_dec hc, textC_dec hd, List.append_assoc, List.cons_append] at h
  obtain ⟨e1, h⟩ := split46 _ _ _ _ (word46 g1) (word46 f1) h
  obtain ⟨e2, h⟩ := split46 _ _ _ _ (word46 g2) (word46 f2) h
  obtain ⟨e3, h⟩ := split46 _ _ _ _ (dec46 _) (dec46 _) h
  obtain ⟨e4, h⟩ := split46 _ _ _ _ (dec46 _) (dec46 _) h
  have h3 := dec_inj e3
  have h4 := dec_inj e4
  obtain ⟨r1, u1, t1, i1⟩ := c
  obtain ⟨r2, u2, t2, i2⟩ := d
  simp only at *
  obtain rfl := ls_inj e1
  obtain rfl := ls_inj e2
  obtain rfl : t1 = t2 := by omega
  obtain rfl : i1 = i2 := by omega
  rfl
def headC (c : Cl) : List UInt8 := ls c.room ++ 46 :: (ls c.user ++ [46])
theorem tok_form {kb : List UInt8} {c : Cl} (hc : goodC c = true) : ∃ X : List UInt8, (makeR kb c).1 = headC c ++ X ∧ 44 ≤ X.length ∧ (makeR kb c).1[(makeR kb c).1.length - 41]? = some 46 ∧ (makeR kb c).1.length ≤ 141 := by
  refine ⟨Lib.decDigits c.til.toNat ++ 46 :: (Lib.decDigits c.rights.toNat ++ 46 :: hexOf (macS kb (textC c))), ?_, ?_, ?_, ?_⟩
  · rw [makeR_good kb hc]
    simp only [textC_dec hc, headC, List.append_assoc, List.cons_append, List.nil_append]
  · have h1 := dec_pos c.til.toNat
    have h2 := dec_pos c.rights.toNat
    simp only [List.length_append, List.length_cons, hexOf_len, macS_len]
    omega
  · rw [makeR_good kb hc]
    simp only [List.length_append, List.length_cons, hexOf_len, macS_len]
    rw [List.getElem?_append_right (by omega)]
    have : (textC c).length + (2 * 20 + 1) - 41 - (textC c).length = 0 := by omega
    rw [this]
    rfl
  · rw [makeR_good kb hc]
    have := textC_len hc
    simp only [List.length_append, List.length_cons, hexOf_len, macS_len]
    omega
end Go.Proofs.YtakgdmcekhafoaaDoor
