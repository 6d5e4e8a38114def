/- numerals: decimal digits, what they spell; strconv.ParseInt's end at them. -/
import Derived.Test.YtakgdmcekhafoaaDoorTx
import Derived.Lib.ItoaNum
import Derived.Lib.ParseIntB
namespace Go.Proofs.YtakgdmcekhafoaaDoor.NuS
open Go.RowKit
set_option linter.unusedSimpArgs false

def valD (l : List UInt8) : Nat := l.foldl (fun n b => 10 * n + (b.toNat - 48)) 0
theorem valD_app (l : List UInt8) (b : UInt8) : valD (l ++ [b]) = 10 * valD l + (b.toNat - 48) := by simp [valD]
theorem dec_ind {P : Nat → Prop} (h1 : ∀ n, n < 10 → P n) (h2 : ∀ n, ¬ n < 10 → P (n / 10) → P n) : ∀ n, P n := fun n =>
  Nat.strongRecOn n fun n ih => by
    by_cases h : n < 10
    · exact h1 n h
    · exact h2 n h (ih (n / 10) (by omega))
theorem dec_small {n : Nat} (h : n < 10) : Lib.decDigits n = [UInt8.ofNat (48 + n)] := by rw [Lib.decDigits, dif_pos h]
theorem dec_big {n : Nat} (h : ¬ n < 10) : Lib.decDigits n = Lib.decDigits (n / 10) ++ [UInt8.ofNat (48 + n % 10)] := by rw [Lib.decDigits, dif_neg h]
theorem dig_nat {k : Nat} (h : k < 10) : (UInt8.ofNat (48 + k)).toNat = 48 + k := by
  rw [UInt8.toNat_ofNat']
  omega
theorem valD_dec (n : Nat) : valD (Lib.decDigits n) = n := by
  induction n using dec_ind with
  | h1 n h =>
    rw [dec_small h]
    show 10 * 0 + ((UInt8.ofNat (48 + n)).toNat - 48) = n
    rw [dig_nat h]
    omega
  | h2 n h ih =>
    rw [dec_big h, valD_app, ih, dig_nat (by omega)]
    omega
theorem dec_inj {m n : Nat} (h : Lib.decDigits m = Lib.decDigits n) : m = n := by rw [← valD_dec m, ← valD_dec n, h]
theorem dec_digits (n : Nat) : ∀ b ∈ Lib.decDigits n, 48 ≤ b.toNat ∧ b.toNat ≤ 57 := by
  induction n using dec_ind with
  | h1 n h =>
    intro b hb
    rw [dec_small h] at hb
    obtain rfl := List.mem_singleton.1 hb
    rw [dig_nat h]
    omega
  | h2 n h ih =>
    intro b hb
    rw [dec_big h] at hb
    rcases List.mem_append.1 hb with hb | hb
    · exact ih b hb
    · obtain rfl := List.mem_singleton.1 hb
      rw [dig_nat (by omega)]
      omega
theorem dec_pos (n : Nat) : 0 < (Lib.decDigits n).length := by
  induction n using dec_ind with
  | h1 n h => rw [dec_small h]; exact Nat.zero_lt_one
  | h2 n h ih => rw [dec_big h, List.length_append]; simp
theorem dec_len : ∀ (k n : Nat), 0 < k → n < 10 ^ k → (Lib.decDigits n).length ≤ k
  | 0, _, h, _ => absurd h (by decide)
  | k + 1, n, _, hn => by
    rw [Lib.decDigits]
    split
    · simp
    · rename_i h10
      have hk : 0 < k := by
        rcases Nat.eq_zero_or_pos k with rfl | h
        · simp at hn; omega
        · exact h
      have := dec_len k (n / 10) hk (by rw [Nat.pow_succ] at hn; omega)
      rw [List.length_append]
      simp only [List.length_singleton]
      omega
theorem dec_head (n : Nat) : n ≠ 0 → ∃ b r, Lib.decDigits n = b :: r ∧ b.toNat ≠ 48 := by
  induction n using dec_ind with
  | h1 n h =>
    intro h0
    refine ⟨_, [], dec_small h, ?_⟩
    rw [dig_nat h]
    omega
  | h2 n h ih =>
    intro _
    obtain ⟨b, r, e, hb⟩ := ih (by omega)
    exact ⟨b, r ++ [UInt8.ofNat (48 + n % 10)], by rw [dec_big h, e]; rfl, hb⟩
theorem fold_pos : ∀ (l : List UInt8) (n : Nat), 0 < n → 0 < l.foldl (fun n b => 10 * n + (b.toNat - 48)) n
  | [], _, h => h
  | a :: l, n, h => fold_pos l _ (show 0 < 10 * n + (a.toNat - 48) by omega)
theorem valD_pos (l : List UInt8) (b : UInt8) (hb : 49 ≤ b.toNat) : 0 < valD (b :: l) := fold_pos l _ (show 0 < 10 * 0 + (b.toNat - 48) by omega)
/-- digits without a nought ahead are the numeral of what they spell -/
theorem canon : ∀ (l : List UInt8), l ≠ [] → (∀ b ∈ l, 48 ≤ b.toNat ∧ b.toNat ≤ 57) → (l.length = 1 ∨ ∃ b r, l = b :: r ∧ b.toNat ≠ 48) → l = Lib.decDigits (valD l) := by
  intro l
  obtain ⟨k, hk⟩ : ∃ k, l.length = k := ⟨_, rfl⟩
  induction k generalizing l with
  | zero => intro h _ _; exact absurd (List.eq_nil_of_length_eq_zero hk) h
  | succ k ih =>
    intro hne hd hh
    obtain ⟨p, b, rfl⟩ : ∃ p b, l = p ++ [b] := ⟨l.dropLast, l.getLast hne, (List.dropLast_concat_getLast hne).symm⟩
    have hb := hd b (by simp)
    rw [valD_app]
    by_cases hp : p = []
    · subst hp
      have h0 : valD [] = 0 := rfl
      rw [h0, dec_small (by omega), List.nil_append]
      congr 1
      apply UInt8.toNat_inj.1
      rw [dig_nat (by omega)]
      omega
    · have hpl : p.length = k := by rw [List.length_append] at hk; simpa using hk
      have hh' : ∃ c r, p = c :: r ∧ c.toNat ≠ 48 := by
        rcases hh with h | ⟨c, r, e, hc⟩
        · rw [List.length_append] at h
          have : p.length = 0 := by simpa using h
          exact absurd (List.eq_nil_of_length_eq_zero this) hp
        · cases p with
          | nil => exact absurd rfl hp
          | cons a q =>
            injection e with e1 e2
            exact ⟨a, q, rfl, by rw [e1]; exact hc⟩
      have hi := ih p hpl hp (fun c hc => hd c (by simp [hc])) (.inr hh')
      obtain ⟨c, r, e, hc⟩ := hh'
      have hpos : 0 < valD p := by
        subst e
        have := hd c (by simp)
        exact valD_pos r c (by omega)
      rw [dec_big (by omega)]
      have e1 : (10 * valD p + (b.toNat - 48)) / 10 = valD p := by omega
      have e2 : (10 * valD p + (b.toNat - 48)) % 10 = b.toNat - 48 := by omega
      rw [e1, e2, ← hi]
      congr 1
      congr 1
      apply UInt8.toNat_inj.1
      rw [dig_nat (by omega)]
      omega
/-- a text is a number's up to 'most' -/
def readR (most : Nat) (l : List UInt8) : Option Nat := if l = Lib.decDigits (valD l) ∧ valD l ≤ most then some (valD l) else none
theorem readR_some {most n : Nat} {l : List UInt8} : readR most l = some n ↔ l = Lib.decDigits n ∧ n ≤ most := by
  unfold readR
  constructor
  · intro h
    split at h
    · rename_i hc
      injection h with h
      subst h
      exact hc
    · cases h
  · rintro ⟨h1, h2⟩
    have : valD l = n := by rw [h1, valD_dec]
    rw [if_pos ⟨by rw [this]; exact h1, by rw [this]; exact h2⟩, this]
theorem readR_none {most : Nat} {l : List UInt8} (h : ∀ n, n ≤ most → l ≠ Lib.decDigits n) : readR most l = none := by
  unfold readR
  rw [if_neg]
  rintro ⟨h1, h2⟩
  exact h _ h2 h1
theorem fold_mono : ∀ (r : List UInt8) (n : Nat), n ≤ r.foldl (fun n b => 10 * n + (b.toNat - 48)) n
  | [], _ => Nat.le_refl _
  | a :: r, n => Nat.le_trans (show n ≤ 10 * n + (a.toNat - 48) by omega) (fold_mono r _)
theorem parseU_digits (M : Nat) : ∀ (l : List UInt8) (acc : Nat), (∀ b ∈ l, 48 ≤ b.toNat ∧ b.toNat ≤ 57) → l.foldl (fun n b => 10 * n + (b.toNat - 48)) acc ≤ M → l.foldl (fun n b => 10 * n + (b.toNat - 48)) acc < 18446744073709551616 → Lib.parseUintM M acc l = .ok (l.foldl (fun n b => 10 * n + (b.toNat - 48)) acc)
  | [], acc, _, _, _ => rfl
  | c :: r, acc, hd, hm, h64 => by
    have hc := hd c (by simp)
    rw [List.foldl_cons] at hm h64 ⊢
    have h1 := fold_mono r (10 * acc + (c.toNat - 48))
    have ih := parseU_digits M r (10 * acc + (c.toNat - 48)) (fun b hb => hd b (by simp [hb])) hm h64
    unfold Lib.parseUintM
    rw [if_pos hc, if_neg (by omega), if_neg (by omega), Nat.mul_comm acc 10]
    exact ih
theorem parseU_le (M : Nat) : ∀ (l : List UInt8) (acc u : Nat), acc ≤ M → Lib.parseUintM M acc l = .ok u → u ≤ M
  | [], acc, u, h, e => by
    unfold Lib.parseUintM at e
    injection e with e
    omega
  | c :: r, acc, u, h, e => by
    unfold Lib.parseUintM at e
    split at e
    · split at e
      · cases e
      · split at e
        · cases e
        · exact parseU_le M r _ u (by omega) e
    · cases e
theorem dec_first (n : Nat) : ∃ c r, Lib.decDigits n = c :: r ∧ 48 ≤ c.toNat ∧ c.toNat ≤ 57 := by
  have h := dec_pos n
  have hd := dec_digits n
  cases e : Lib.decDigits n with
  | nil => rw [e] at h; simp at h
  | cons c r =>
    rw [e] at hd
    exact ⟨c, r, rfl, hd c (by simp)⟩
theorem parseInt_dec (B n : Nat) (hB : B = 32 ∨ B = 64) (hn : n < 2 ^ (B - 1)) : Lib.parseIntB B (Lib.decDigits n) = .ok (n : Int) := by
  obtain ⟨c, r, e, h1, h2⟩ := dec_first n
  have hd := dec_digits n
  have hv : (Lib.decDigits n).foldl (fun n b => 10 * n + (b.toNat - 48)) 0 = n := valD_dec n
  have hu : Lib.parseUintB B (Lib.decDigits n) = .ok n := by
    unfold Lib.parseUintB
    rw [if_neg (by rw [e]; simp)]
    have := parseU_digits (2 ^ B - 1) (Lib.decDigits n) 0 hd (by rw [hv]; rcases hB with rfl | rfl <;> omega) (by rw [hv]; rcases hB with rfl | rfl <;> omega)
    rw [this, hv]
  rw [e] at hu ⊢
  unfold Lib.parseIntB
  simp only []
  rw [if_neg (show ¬ (c.toNat = 43 ∨ c.toNat = 45) by omega), hu]
  have h45 : ¬ c.toNat = 45 := by omega
  simp only [h45, not_false_eq_true, true_and, false_and, if_false]
  rw [if_neg (by omega)]
theorem parseInt_bound {B : Nat} {l : List UInt8} {v : Int} (h : Lib.parseIntB B l = .ok v) : v < (2 ^ (B - 1) : Nat) ∧ -((2 ^ (B - 1) : Nat) : Int) ≤ v := by
  unfold Lib.parseIntB at h
  have hp : 0 < 2 ^ (B - 1) := Nat.two_pow_pos _
  split at h
  · cases h
  · rename_i c r
    simp only [] at h
    split at h
    · cases h
    · cases h
    · rename_i u _
      split at h
      · cases h
      · split at h
        · cases h
        · rename_i h1 h2
          injection h with h
          by_cases h45 : c.toNat = 45
          · rw [if_pos h45] at h
            have : ¬ 2 ^ (B - 1) < u := fun hh => h2 ⟨h45, hh⟩
            omega
          · rw [if_neg h45] at h
            have : ¬ 2 ^ (B - 1) ≤ u := fun hh => h1 ⟨h45, hh⟩
            omega
end Go.Proofs.YtakgdmcekhafoaaDoor.NuS
