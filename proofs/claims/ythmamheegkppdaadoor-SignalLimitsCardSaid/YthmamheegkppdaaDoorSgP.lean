/- SignalLimits, the plain law. -/
import Derived.Test.YthmamheegkppdaaDoorSgK
namespace Go.Proofs.YthmamheegkppdaaDoor
open Go.RowKit
set_option linter.unusedSimpArgs false

theorem ofB_rep (n N lo hi : Nat) (c : UInt8) (h : lo ≤ c.toNat ∧ c.toNat ≤ hi) : ofB (bsA (List.replicate n c)) N lo hi = (decide (1 ≤ n) && decide (n ≤ N)) := by
  have h1 : (List.replicate n c).any (badB lo hi) = false := by
    rw [List.any_eq_false]
    intro b hb
    rw [List.mem_replicate] at hb
    rw [hb.2]
    simp only [badB, Bool.or_eq_true, decide_eq_true_eq]
    omega
  have h2 : (bsA (List.replicate n c)).size = n := by rw [bsA_size]; simp
  unfold ofB
  rw [h2]
  show (!(List.replicate n c).any (badB lo hi) && _) = _
  rw [h1]
  rfl
def mL (v y k : Nat) : Msg := ⟨bsA (List.replicate v 86), [bsA (List.replicate y 97)], bsA (List.replicate k 98)⟩
def tL (v y k : Nat) : List UInt8 := headM (mL v y k) ++ ls (mL v y k).body
theorem tL_eq (v y k : Nat) : tL v y k = List.replicate v 86 ++ ([32] ++ List.replicate y 97 ++ [10] ++ List.replicate k 98) := by
  unfold tL headM mL Lib.joinTail
  simp
theorem tL_len (v y k : Nat) : (tL v y k).length = v + 1 + y + 1 + k := by
  rw [tL_eq]
  simp
  omega
theorem goodL (v y k : Nat) : goodM (mL v y k) = true ↔ (1 ≤ v ∧ v ≤ 10) ∧ (1 ≤ y ∧ y ≤ 200) := by
  unfold goodM mL argB
  rw [ofB_rep v 10 65 90 86 (by decide)]
  simp only [List.length_singleton, List.all_cons, List.all_nil]
  rw [ofB_rep y 200 33 126 97 (by decide)]
  simp
theorem wordsL (v y k : Nat) : cutC 10 (tL v y k) = (List.replicate v 86 ++ Lib.joinTail [32] [List.replicate y 97], List.replicate k 98, true) ∧ wordsM (tL v y k) = mL v y k := by
  have e : tL v y k = (List.replicate v 86 ++ Lib.joinTail [32] [List.replicate y 97]) ++ 10 :: List.replicate k 98 := by simp [tL, headM, mL, Lib.joinTail]
  have hno : ∀ b ∈ List.replicate v 86 ++ Lib.joinTail [32] [List.replicate y (97 : UInt8)], b ≠ 10 := by
    intro b hb
    rcases List.mem_append.1 hb with hb | hb
    · rw [List.mem_replicate] at hb
      rw [hb.2]
      decide
    · rcases joinTail_mem _ b hb with rfl | ⟨x, hx, hb⟩
      · decide
      · rw [List.mem_singleton.1 hx, List.mem_replicate] at hb
        rw [hb.2]
        decide
  have hc := cutC_no_app 10 _ (List.replicate k 98) hno
  rw [← e] at hc
  refine ⟨hc, ?_⟩
  have hs : splitC 32 (List.replicate v 86 ++ Lib.joinTail [32] [List.replicate y (97 : UInt8)]) = List.replicate v 86 :: [List.replicate y 97] := splitC_join 32 _ _ (by
    intro x hx b hb
    rcases List.mem_cons.1 hx with rfl | hx
    · rw [List.mem_replicate] at hb
      rw [hb.2]
      decide
    · rw [List.mem_singleton.1 hx, List.mem_replicate] at hb
      rw [hb.2]
      decide)
  have := wordsM_of (l := tL v y k) (v := List.replicate v 86) (a := [List.replicate y 97]) (by rw [hc]; exact hs)
  rw [this, hc]
  rfl
/-- the three ways -/
theorem limits (v y k : Nat) :
    (((1 ≤ v ∧ v ≤ 10) ∧ (1 ≤ y ∧ y ≤ 200) ∧ v + 1 + y + 1 + k ≤ 9192) ∧ printR (mL v y k) = (tL v y k, 0) ∧ parseM (tL v y k) = (mL v y k, 0)) ∨
    (¬ ((1 ≤ v ∧ v ≤ 10) ∧ (1 ≤ y ∧ y ≤ 200)) ∧ v + 1 + y + 1 + k ≤ 9192 ∧ printR (mL v y k) = ([], 1) ∧ parseM (tL v y k) = (msg0, 2)) ∨
    (9192 < v + 1 + y + 1 + k ∧ printR (mL v y k) = ([], 1) ∧ parseM (tL v y k) = (msg0, 3)) := by
  have hlen : (headM (mL v y k)).length + (mL v y k).body.size = v + 1 + y + 1 + k := by
    rw [← tL_len v y k]
    unfold tL
    rw [List.length_append, ls_len]
  by_cases hl : v + 1 + y + 1 + k ≤ 9192
  · by_cases hg : (1 ≤ v ∧ v ≤ 10) ∧ (1 ≤ y ∧ y ≤ 200)
    · have hp : printR (mL v y k) = (tL v y k, 0) := if_pos ⟨(goodL v y k).2 hg, by omega⟩
      refine .inl ⟨⟨hg.1, hg.2, hl⟩, hp, ?_⟩
      have := parse_print (m := mL v y k) (by rw [hp])
      rw [hp] at this
      exact this
    · have hp : printR (mL v y k) = ([], 1) := if_neg (fun h => hg ((goodL v y k).1 h.1))
      refine .inr (.inl ⟨hg, hl, hp, ?_⟩)
      unfold parseM
      rw [if_neg (by rw [tL_len]; omega), if_neg]
      rintro ⟨_, h⟩
      rw [(wordsL v y k).2, hp] at h
      exact absurd h (by decide)
  · have hp : printR (mL v y k) = ([], 1) := if_neg (fun h => hl (by have := h.2; omega))
    refine .inr (.inr ⟨by omega, hp, ?_⟩)
    unfold parseM
    rw [if_pos (by rw [tL_len]; omega)]
end Go.Proofs.YthmamheegkppdaaDoor
