/- signal.Parse, plain: what a text is. -/
import Derived.Test.YthmamheegkppdaaDoorSgE
import Derived.Test.YthmamheegkppdaaDoorSp
namespace Go.Proofs.YthmamheegkppdaaDoor
open Go.RowKit
set_option linter.unusedSimpArgs false

def msgL (v : List UInt8) (a : List (List UInt8)) (b : List UInt8) : Msg := ⟨bsA v, a.map bsA, bsA b⟩
def msg0 : Msg := ⟨⟨#[]⟩, [], ⟨#[]⟩⟩
/-- the words of a text's first line, and what stands behind it -/
def wordsM (l : List UInt8) : Msg := match splitC 32 (cutC 10 l).1 with
  | [] => msg0
  | v :: a => msgL v a (cutC 10 l).2.1
def parseM (l : List UInt8) : Msg × Int :=
  if 9192 < l.length then (msg0, 3)
  else if (cutC 10 l).2.2 = true ∧ (printR (wordsM l)).2 = 0 then (wordsM l, 0) else (msg0, 2)
theorem wordsM_of {l v : List UInt8} {a : List (List UInt8)} (h : splitC 32 (cutC 10 l).1 = v :: a) : wordsM l = msgL v a (cutC 10 l).2.1 := by
  unfold wordsM
  rw [h]
theorem map_ls_bsA (a : List (List UInt8)) : (a.map bsA).map ls = a := by rw [List.map_map]; exact List.map_id _
theorem printR_cases (m : Msg) : (goodM m = true ∧ (headM m).length + m.body.size ≤ 9192 ∧ printR m = (headM m ++ ls m.body, 0)) ∨ (printR m = ([], 1) ∧ ¬ (goodM m = true ∧ (headM m).length + m.body.size ≤ 9192)) := by
  by_cases h : goodM m = true ∧ (headM m).length + m.body.size ≤ 9192
  · exact .inl ⟨h.1, h.2, if_pos h⟩
  · exact .inr ⟨if_neg h, h⟩
/-- what is parsed is printed as it stood -/
theorem print_words {l : List UInt8} (h : (cutC 10 l).2.2 = true) (hp : (printR (wordsM l)).2 = 0) : (printR (wordsM l)).1 = l := by
  rcases printR_cases (wordsM l) with ⟨_, _, e⟩ | ⟨e, _⟩
  · rw [e]
    obtain ⟨v, a, hs⟩ := splitC_ne 32 (cutC 10 l).1
    have h1 := splitC_back 32 _ v a hs
    rcases cutC_back 10 l with ⟨_, h2, _⟩ | ⟨h2, _⟩
    · rw [wordsM_of hs]
      show (v ++ (Lib.joinTail [32] ((a.map bsA).map ls) ++ [10])) ++ (cutC 10 l).2.1 = l
      rw [map_ls_bsA]
      conv => rhs; rw [h2, h1]
      simp
    · rw [h2] at h; cases h
  · rw [e] at hp; cases hp
theorem of_all {s : ByteArray} {n lo hi : Nat} (h : ofB s n lo hi = true) : ∀ b ∈ ls s, lo ≤ b.toNat ∧ b.toNat ≤ hi := by
  intro b hb
  simp only [ofB, Bool.and_eq_true, Bool.not_eq_true'] at h
  have := List.any_eq_false.1 h.1 b hb
  simp only [badB, Bool.or_eq_true, decide_eq_true_eq] at this
  omega
theorem goodM_parts {m : Msg} (h : goodM m = true) : (∀ b ∈ ls m.verb, 65 ≤ b.toNat ∧ b.toNat ≤ 90) ∧ ∀ a ∈ m.args, ∀ b ∈ ls a, 33 ≤ b.toNat ∧ b.toNat ≤ 126 := by
  simp only [goodM, Bool.and_eq_true, List.all_eq_true] at h
  exact ⟨of_all h.1, fun a ha => of_all (h.2.2 a ha)⟩
theorem ne_of_nat {b c : UInt8} (h : b.toNat ≠ c.toNat) : b ≠ c := fun e => h (by rw [e])
theorem joinTail_mem (r : List (List UInt8)) (b : UInt8) (hb : b ∈ Lib.joinTail [32] r) : b = 32 ∨ ∃ x ∈ r, b ∈ x := by
  unfold Lib.joinTail at hb
  obtain ⟨l, hl, hb⟩ := List.mem_flatten.1 hb
  obtain ⟨x, hx, rfl⟩ := List.mem_map.1 hl
  rcases List.mem_append.1 hb with h | h
  · exact .inl (List.mem_singleton.1 h)
  · exact .inr ⟨x, hx, h⟩
/-- a good message's text is cut and split as it was -/
theorem words_print {m : Msg} (h : goodM m = true) : cutC 10 (headM m ++ ls m.body) = (ls m.verb ++ Lib.joinTail [32] (m.args.map ls), ls m.body, true) ∧ wordsM (headM m ++ ls m.body) = m := by
  obtain ⟨h1, h2⟩ := goodM_parts h
  have e : headM m ++ ls m.body = (ls m.verb ++ Lib.joinTail [32] (m.args.map ls)) ++ 10 :: ls m.body := by simp [headM]
  have hno : ∀ b ∈ ls m.verb ++ Lib.joinTail [32] (m.args.map ls), b ≠ 10 := by
    intro b hb
    rcases List.mem_append.1 hb with hb | hb
    · have := h1 b hb
      exact ne_of_nat (by show b.toNat ≠ 10; omega)
    · rcases joinTail_mem _ b hb with rfl | ⟨x, hx, hb⟩
      · decide
      · obtain ⟨a, ha, rfl⟩ := List.mem_map.1 hx
        have := h2 a ha b hb
        exact ne_of_nat (by show b.toNat ≠ 10; omega)
  have hc := cutC_no_app 10 _ (ls m.body) hno
  rw [← e] at hc
  refine ⟨hc, ?_⟩
  have hs : splitC 32 (ls m.verb ++ Lib.joinTail [32] (m.args.map ls)) = ls m.verb :: m.args.map ls := splitC_join 32 _ _ (by
    intro y hy b hb
    rcases List.mem_cons.1 hy with rfl | hy
    · have := h1 b hb
      exact ne_of_nat (by show b.toNat ≠ 32; omega)
    · obtain ⟨a, ha, rfl⟩ := List.mem_map.1 hy
      have := h2 a ha b hb
      exact ne_of_nat (by show b.toNat ≠ 32; omega))
  have := wordsM_of (l := headM m ++ ls m.body) (v := ls m.verb) (a := m.args.map ls) (by rw [hc]; exact hs)
  rw [this, hc]
  obtain ⟨v, a, b⟩ := m
  have hm : (a.map ls).map bsA = a := by rw [List.map_map]; exact List.map_id _
  show Msg.mk v ((a.map ls).map bsA) b = _
  rw [hm]
theorem parse_print {m : Msg} (h : (printR m).2 = 0) : parseM (printR m).1 = (m, 0) := by
  rcases printR_cases m with ⟨hg, hl, e⟩ | ⟨e, _⟩
  · obtain ⟨h1, h2⟩ := words_print hg
    rw [e]
    unfold parseM
    rw [if_neg (by simp only [List.length_append, ls_len]; omega), h2, if_pos ⟨by rw [h1], h⟩]
  · rw [e] at h; cases h
end Go.Proofs.YthmamheegkppdaaDoor
