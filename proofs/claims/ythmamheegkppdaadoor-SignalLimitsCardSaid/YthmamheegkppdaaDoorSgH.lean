/- rostrumref24.Parse. -/
import Derived.Test.YthmamheegkppdaaDoorSgG
namespace Go.Proofs.YthmamheegkppdaaDoor
open Go.RowKit
set_option linter.unusedSimpArgs false

theorem splitC_snoc (c : UInt8) : ∀ l : List UInt8, ∃ p x, splitC c l = p ++ [x] ∧ splitC c (l ++ [c]) = p ++ [x] ++ [[]] ∧ ∀ b, b ≠ c → splitC c (l ++ [b]) = p ++ [x ++ [b]]
  | [] => ⟨[], [], rfl, by simp [splitC], fun b h => by simp [splitC, h]⟩
  | a :: l => by
    obtain ⟨p, x, h1, h2, h3⟩ := splitC_snoc c l
    by_cases ha : a = c
    · refine ⟨[] :: p, x, ?_, ?_, fun b hb => ?_⟩
      · rw [splitC, if_pos ha, h1]; rfl
      · rw [List.cons_append, splitC, if_pos ha, h2]; rfl
      · rw [List.cons_append, splitC, if_pos ha, h3 b hb]; rfl
    · cases p with
      | nil =>
        refine ⟨[], a :: x, ?_, ?_, fun b hb => ?_⟩
        · rw [splitC, if_neg ha, h1]; rfl
        · rw [List.cons_append, splitC, if_neg ha, h2]; rfl
        · rw [List.cons_append, splitC, if_neg ha, h3 b hb]; rfl
      | cons y p =>
        refine ⟨(a :: y) :: p, x, ?_, ?_, fun b hb => ?_⟩
        · rw [splitC, if_neg ha, h1]; rfl
        · rw [List.cons_append, splitC, if_neg ha, h2]; rfl
        · rw [List.cons_append, splitC, if_neg ha, h3 b hb]; rfl
theorem St.rowSetV {I : Img} {M : List Res} {w : World} {e n c g : Nat} {xs : List Value} (h : St I (row e 1 (.slice (some ⟨g, 0, none⟩) n c) n xs :: M) w) (k : Nat) (x : Value) :
    St I (row e 1 (.slice (some ⟨g, 0, none⟩) n c) n (xs.set k x) :: M) (w.setCell ⟨g, k, none⟩ x) := by
  have ho : w.ownsRow 0 e 1 (.slice (some ⟨g, 0, none⟩) n c) n xs := h.head
  have hs := ho.stored k x
  exact St.grown h hs.2 hs.1 (.inl rfl)
/-- an owned row that is not empty: where it lies -/
theorem own_at0 {w : World} {e n c : Nat} {A : Option Addr} {xs : List Value} (h : w.ownsRow 0 e 1 (.slice A n c) n xs) (h0 : 0 < n) :
    ∃ g, A = some ⟨g, 0, none⟩ ∧ g < w.heap.size ∧ n ≤ c ∧ (∀ k v, xs[k]? = some v → w.cell? ⟨g, k, none⟩ = some v) ∧ (∀ k, w.frozen? ⟨g, k, none⟩ = false) := by
  have hc := (own_cap h).2
  rcases h.2 with ⟨_, hn⟩ | ⟨g, cap, cur, hv, _, hg, _⟩
  · omega
  · injection hv with hA
    subst hA
    refine ⟨g, rfl, (Array.getElem?_eq_some_iff.1 hg).1, hc, fun k v hk => ?_, fun k => frozen_of_row w g k cur e hg⟩
    have := h.cells (g := g) rfl k v hk
    rw [add_at, Nat.zero_add] at this
    exact this
theorem parse_far {l : List UInt8} (h : ∀ b ∈ l.take 1002, b ≠ 10) (hl : ¬ 9192 < l.length) : parseM l = (msg0, 2) := by
  unfold parseM
  rw [if_neg hl, if_neg]
  rintro ⟨h1, h2⟩
  rcases printR_cases (wordsM l) with ⟨hg, _, e⟩ | ⟨e, _⟩
  · have hp := print_words h1 h2
    obtain ⟨hw, _⟩ := words_print hg
    rw [e] at hp
    have hp' : headM (wordsM l) ++ ls (wordsM l).body = l := hp
    have h815 := (head_len hg).1
    have hlast : headM (wordsM l) = (ls (wordsM l).verb ++ Lib.joinTail [32] ((wordsM l).args.map ls)) ++ [10] := by simp [headM]
    have hmem : (10 : UInt8) ∈ l.take 1002 := by
      rw [← hp', List.take_append, List.take_of_length_le (by omega), hlast]
      simp
    exact h 10 hmem rfl
  · rw [e] at h2; cases h2
theorem parse_end {l : List UInt8} (h : ∀ b ∈ l, b ≠ 10) (hl : ¬ 9192 < l.length) : parseM l = (msg0, 2) := by
  unfold parseM
  rw [if_neg hl, cutC_plain 10 l h, if_neg (by simp)]
theorem parse_at {l : List UInt8} {i : Nat} (h : ∀ b ∈ l.take i, b ≠ 10) (hi : i < l.length) (hb : l[i] = 10) (hl : ¬ 9192 < l.length) : cutC 10 l = (l.take i, l.drop (i + 1), true) ∧ parseM l = if (printR (wordsM l)).2 = 0 then (wordsM l, 0) else (msg0, 2) := by
  have e : l = l.take i ++ 10 :: l.drop (i + 1) := by
    rw [← hb, ← List.drop_eq_getElem_cons hi, List.take_append_drop]
  have hc := cutC_no_app 10 (l.take i) (l.drop (i + 1)) h
  rw [← e] at hc
  refine ⟨hc, ?_⟩
  unfold parseM
  rw [if_neg hl, hc]
  simp
end Go.Proofs.YthmamheegkppdaaDoor
