/- cut and split at one byte. -/
import Derived.Test.YtakgdmcekhafoaaDoorTx
import Derived.Lib.SplitLaws
import Derived.Lib.Join
namespace Go.Proofs.YtakgdmcekhafoaaDoor
open Go.RowKit
set_option linter.unusedSimpArgs false

def cutC (c : UInt8) : List UInt8 → List UInt8 × List UInt8 × Bool
  | [] => ([], [], false)
  | b :: l => if b = c then ([], l, true) else (b :: (cutC c l).1, (cutC c l).2.1, (cutC c l).2.2)
def splitC (c : UInt8) : List UInt8 → List (List UInt8)
  | [] => [[]]
  | b :: l => if b = c then [] :: splitC c l else match splitC c l with
    | [] => [[b]]
    | x :: r => (b :: x) :: r
theorem idx_eq (c : UInt8) (l : List UInt8) : Lib.index (c :: l) [c] = 0 := by rw [Lib.index]; simp [List.isPrefixOf]
theorem idx_ne {b c : UInt8} (l : List UInt8) (h : b ≠ c) : Lib.index (b :: l) [c] = if Lib.index l [c] == -1 then -1 else Lib.index l [c] + 1 := by
  have hp : ([c] : List UInt8).isPrefixOf (b :: l) = false := by simp [List.isPrefixOf, Ne.symm h]
  rw [Lib.index, hp]
  simp
theorem idx_cases (l : List UInt8) (c : UInt8) : Lib.index l [c] = -1 ∨ ∃ j : Nat, Lib.index l [c] = j := by
  have hge := Lib.index_ge l [c]
  by_cases h : Lib.index l [c] = -1
  · exact .inl h
  · exact .inr ⟨(Lib.index l [c]).toNat, by omega⟩
theorem cut_one (c : UInt8) : ∀ l : List UInt8, Lib.cut l [c] = cutC c l
  | [] => by simp [Lib.cut, cutC, Lib.index]
  | b :: l => by
    have ih := cut_one c l
    unfold cutC
    by_cases h : b = c
    · subst h
      rw [if_pos rfl]
      unfold Lib.cut
      rw [idx_eq]
      simp
    · rw [if_neg h, ← ih]
      unfold Lib.cut
      rw [idx_ne l h]
      rcases idx_cases l c with e | ⟨j, e⟩
      · rw [e]
        simp
      · have e2 : ((j : Int) == -1) = false := by rw [beq_eq_false_iff_ne]; omega
        rw [e, e2]
        have e3 : ((j : Int) + 1).toNat = j + 1 := by omega
        have e4 : (0 : Int) ≤ (j : Int) + 1 := by omega
        simp [e3, e4]
theorem splitC_ne (c : UInt8) : ∀ l, ∃ x r, splitC c l = x :: r
  | [] => ⟨_, _, rfl⟩
  | b :: l => by
    unfold splitC
    split
    · exact ⟨_, _, rfl⟩
    · obtain ⟨x, r, e⟩ := splitC_ne c l
      rw [e]
      exact ⟨_, _, rfl⟩
theorem split_one (c : UInt8) : ∀ l : List UInt8, Lib.splitK [c] 0 (Lib.count l [c]) l = splitC c l
  | [] => by rw [Lib.count_miss (by simp [Lib.index])]; rfl
  | b :: l => by
    have ih := split_one c l
    unfold splitC
    by_cases h : b = c
    · subst h
      rw [if_pos rfl, Lib.count_cons_eq, Nat.add_comm 1]
      unfold Lib.splitK
      rw [idx_eq, ← ih]
      simp
    · rw [if_neg h, Lib.count_cons_ne b c l h, ← ih]
      rcases idx_cases l c with e | ⟨j, e⟩
      · rw [Lib.count_miss e]
        rfl
      · obtain ⟨k, hk⟩ : ∃ k, Lib.count l [c] = k + 1 := by
          rw [Lib.count_hit (by simp) e]
          exact ⟨_, Nat.add_comm _ _⟩
        rw [hk]
        have e2 : ((j : Int) == -1) = false := by rw [beq_eq_false_iff_ne]; omega
        have e3 : ((j : Int) + 1 == -1) = false := by rw [beq_eq_false_iff_ne]; omega
        have e4 : ((j : Int) + 1).toNat = j + 1 := by omega
        simp only [Lib.splitK, idx_ne l h, e, e2, e3, e4, Bool.false_eq_true, if_false, Int.toNat_natCast, Nat.add_zero, List.length_singleton, List.take_succ_cons, List.drop_succ_cons]
theorem split_bytes (c : UInt8) (s : ByteArray) : Lib.splitB ⟨#[c]⟩ 0 (Lib.countB s ⟨#[c]⟩) s = (splitC c (ls s)).map bsA := by
  have h := Lib.splitB_data ⟨#[c]⟩ 0 (Lib.countB s ⟨#[c]⟩) s
  have h2 : Lib.splitK (ByteArray.data ⟨#[c]⟩).toList 0 (Lib.countB s ⟨#[c]⟩) s.data.toList = splitC c (ls s) := split_one c (ls s)
  rw [h2] at h
  rw [← h, List.map_map]
  exact (List.map_id _).symm
theorem splitC_no (c : UInt8) : ∀ (l : List UInt8), ∀ x ∈ splitC c l, ∀ b ∈ x, b ≠ c
  | [], x, hx, b, hb => by
    obtain rfl := List.mem_singleton.1 hx
    cases hb
  | a :: l, x, hx, b, hb => by
    have ih := splitC_no c l
    unfold splitC at hx
    by_cases h : a = c
    · rw [if_pos h] at hx
      rcases List.mem_cons.1 hx with rfl | hx
      · cases hb
      · exact ih x hx b hb
    · rw [if_neg h] at hx
      obtain ⟨y, r, e⟩ := splitC_ne c l
      rw [e] at hx
      rcases List.mem_cons.1 hx with rfl | hx
      · rcases List.mem_cons.1 hb with rfl | hb
        · exact h
        · exact ih y (by rw [e]; simp) b hb
      · exact ih x (by rw [e]; simp [hx]) b hb
theorem splitC_back (c : UInt8) : ∀ (l x : List UInt8) (r : List (List UInt8)), splitC c l = x :: r → l = x ++ Lib.joinTail [c] r
  | [], x, r, h => by
    unfold splitC at h
    injection h with h1 h2
    subst h1 h2
    rfl
  | a :: l, x, r, h => by
    unfold splitC at h
    obtain ⟨y, q, e⟩ := splitC_ne c l
    have ih := splitC_back c l y q e
    by_cases ha : a = c
    · rw [if_pos ha, e] at h
      injection h with h1 h2
      subst h1 h2 ha
      rw [ih]
      simp [Lib.joinTail]
    · rw [if_neg ha, e] at h
      injection h with h1 h2
      subst h1 h2
      rw [ih]
      simp
theorem splitC_no_app (c : UInt8) : ∀ (x l : List UInt8), (∀ b ∈ x, b ≠ c) → splitC c (x ++ c :: l) = x :: splitC c l
  | [], l, _ => by
    show splitC c (c :: l) = _
    rw [splitC, if_pos rfl]
  | b :: x, l, h => by
    rw [List.cons_append, splitC, if_neg (h b (by simp)), splitC_no_app c x l (fun b hb => h b (by simp [hb]))]
theorem splitC_plain (c : UInt8) : ∀ (x : List UInt8), (∀ b ∈ x, b ≠ c) → splitC c x = [x]
  | [], _ => rfl
  | b :: x, h => by rw [splitC, if_neg (h b (by simp)), splitC_plain c x (fun b hb => h b (by simp [hb]))]
theorem splitC_join (c : UInt8) : ∀ (r : List (List UInt8)) (x : List UInt8), (∀ y ∈ x :: r, ∀ b ∈ y, b ≠ c) → splitC c (x ++ Lib.joinTail [c] r) = x :: r
  | [], x, h => by
    have : Lib.joinTail [c] [] = [] := rfl
    rw [this, List.append_nil]
    exact splitC_plain c x (h x (by simp))
  | y :: r, x, h => by
    have : x ++ Lib.joinTail [c] (y :: r) = x ++ c :: (y ++ Lib.joinTail [c] r) := by simp [Lib.joinTail]
    rw [this, splitC_no_app c x _ (h x (by simp)), splitC_join c r y (fun z hz => h z (List.mem_cons_of_mem _ hz))]
theorem cutC_no_app (c : UInt8) : ∀ (x l : List UInt8), (∀ b ∈ x, b ≠ c) → cutC c (x ++ c :: l) = (x, l, true)
  | [], l, _ => by
    show cutC c (c :: l) = _
    rw [cutC, if_pos rfl]
  | b :: x, l, h => by
    rw [List.cons_append, cutC, if_neg (h b (by simp)), cutC_no_app c x l (fun b hb => h b (by simp [hb]))]
theorem cutC_plain (c : UInt8) : ∀ (x : List UInt8), (∀ b ∈ x, b ≠ c) → cutC c x = (x, [], false)
  | [], _ => rfl
  | b :: x, h => by rw [cutC, if_neg (h b (by simp)), cutC_plain c x (fun b hb => h b (by simp [hb]))]
theorem cutC_back (c : UInt8) : ∀ (l : List UInt8), ((cutC c l).2.2 = true ∧ l = (cutC c l).1 ++ c :: (cutC c l).2.1 ∧ ∀ b ∈ (cutC c l).1, b ≠ c) ∨ ((cutC c l).2.2 = false ∧ cutC c l = (l, [], false) ∧ ∀ b ∈ l, b ≠ c)
  | [] => .inr ⟨rfl, rfl, fun b hb => by cases hb⟩
  | a :: l => by
    by_cases h : a = c
    · subst h
      rw [cutC, if_pos rfl]
      exact .inl ⟨rfl, rfl, fun b hb => by cases hb⟩
    · rw [cutC, if_neg h]
      rcases cutC_back c l with ⟨h1, h2, h3⟩ | ⟨h1, h2, h3⟩
      · refine .inl ⟨h1, ?_, ?_⟩
        · show a :: l = a :: (_ ++ _)
          rw [← h2]
        · intro b hb
          rcases List.mem_cons.1 hb with rfl | hb
          · exact h
          · exact h3 b hb
      · refine .inr ⟨h1, ?_, ?_⟩
        · rw [h2]
        · intro b hb
          rcases List.mem_cons.1 hb with rfl | hb
          · exact h
          · exact h3 b hb
end Go.Proofs.YtakgdmcekhafoaaDoor
