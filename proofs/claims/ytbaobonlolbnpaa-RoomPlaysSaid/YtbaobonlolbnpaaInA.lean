/- a house's bounds and order; no program in sight. -/
import Derived.Test.YtbaobonlolbnpaaRpG
import Derived.Test.YtbaobonlolbnpaaRoM
namespace Go.Proofs.Ytbaobonlolbnpaa
open Go.RowKit
set_option linter.unusedSimpArgs false

structure Inv (h : Ho) : Prop where
  lm0 : 0 ≤ h.lm
  li0 : 0 ≤ h.li
  mlt : ∀ m ∈ h.ms, m.id ≤ h.lm
  mnd : (h.ms.map (·.id)).Nodup
  tlt : ∀ t ∈ h.ts, t.id ≤ h.li
  tnd : (h.ts.map (·.id)).Nodup
  rig : ∀ m ∈ h.ms, 0 ≤ m.rights ∧ m.rights ≤ 7
  rsz : ∀ m ∈ h.ms, m.room.size ≤ maxLen
  tm : ∀ t ∈ h.ts, ∃ m, mem? h t.member = some m ∧ m.rights % 2 = 1
  sm : ∀ s ∈ h.ss, ∃ m t mt, mem? h s.member = some m ∧ trk? h s.track = some t ∧ mem? h t.member = some mt ∧ mt.room.toList = m.room.toList ∧ m.rights / 2 % 2 = 1 ∧ t.member ≠ s.member ∧ 0 ≤ s.layer ∧ s.layer ≤ 2
  c8 : ∀ r, cnt (roomsL h.ms) r ≤ 8
  d4 : (dist (roomsL h.ms)).length ≤ 4
  t8 : ∀ r, (tracksS h r).length ≤ 8
  s16 : ∀ id, cntM h.ss id ≤ 16
  sun : ∀ id t, (h.ss.filter (fun s => s.member == id && s.track == t)).length ≤ 1
structure Sz (h : Ho) (k : Nat) : Prop where
  ms : h.ms.length ≤ k
  ts : h.ts.length ≤ k
  ss : h.ss.length ≤ k
  lm : h.lm ≤ k
  li : h.li ≤ k
theorem Inv.empty : Inv emptyHo where
  lm0 := by decide
  li0 := by decide
  mlt := fun m hm => by cases hm
  mnd := .nil
  tlt := fun m hm => by cases hm
  tnd := .nil
  rig := fun m hm => by cases hm
  rsz := fun m hm => by cases hm
  tm := fun m hm => by cases hm
  sm := fun m hm => by cases hm
  c8 := fun r => by show 0 ≤ 8; omega
  d4 := by decide
  t8 := fun r => by show 0 ≤ 8; omega
  s16 := fun r => by show 0 ≤ 16; omega
  sun := fun _ _ => by show 0 ≤ 1; omega
theorem Sz.empty (k : Nat) : Sz emptyHo k := ⟨Nat.zero_le _, Nat.zero_le _, Nat.zero_le _, Int.natCast_nonneg k, Int.natCast_nonneg k⟩
theorem Sz.mono {h : Ho} {k l : Nat} (s : Sz h k) (hk : k ≤ l) : Sz h l := ⟨by have := s.ms; omega, by have := s.ts; omega, by have := s.ss; omega, by have := s.lm; omega, by have := s.li; omega⟩
theorem Inv.tm0 {h : Ho} (i : Inv h) : ∀ t ∈ h.ts, mem? h t.member ≠ none := fun t ht => by
  obtain ⟨m, hm, _⟩ := i.tm t ht
  rw [hm]; simp
theorem Inv.st0 {h : Ho} (i : Inv h) : ∀ s ∈ h.ss, trk? h s.track ≠ none := fun s hs => by
  obtain ⟨m, t, mt, _, ht, _⟩ := i.sm s hs
  rw [ht]; simp
/-- names, counted once -/
theorem any_filter_ne {r : List ByteArray} {x y : ByteArray} (h : (y.toList == x.toList) = false) : (r.filter (fun z => !(z.toList == x.toList))).any (fun z => z.toList == y.toList) = r.any (fun z => z.toList == y.toList) := by
  rw [List.any_filter]
  congr 1
  funext z
  cases hz : (z.toList == y.toList)
  · simp
  · have : (z.toList == x.toList) = false := by
      simp only [beq_iff_eq] at hz
      rw [hz]; exact h
    rw [this]; rfl
theorem dist_del (x : ByteArray) : ∀ r : List ByteArray, (dist (r.filter (fun z => !(z.toList == x.toList)))).length + (if r.any (fun z => z.toList == x.toList) = true then 1 else 0) = (dist r).length
  | [] => rfl
  | y :: r => by
    have ih := dist_del x r
    cases hy : (y.toList == x.toList)
    · rw [List.filter_cons, if_pos (by rw [hy]; rfl)]
      rw [List.any_cons, hy, Bool.false_or]
      simp only [dist, any_filter_ne hy]
      split <;> split <;> simp_all <;> omega
    · have e : y.toList = x.toList := by simpa using hy
      rw [List.filter_cons, if_neg (by rw [hy]; simp)]
      rw [List.any_cons, hy, Bool.true_or, if_pos rfl]
      simp only [dist, e]
      split
      · rename_i h1; rw [if_pos h1] at ih; omega
      · rename_i h1; rw [if_neg h1] at ih; rw [List.length_cons]; omega
theorem dist_cons (x : ByteArray) (r : List ByteArray) : (dist (x :: r)).length = (dist (r.filter (fun z => !(z.toList == x.toList)))).length + 1 := by
  have h := dist_del x (x :: r)
  rw [List.filter_cons, if_neg (by simp), List.any_cons, if_pos (by simp)] at h
  exact h.symm
theorem dist_sub : ∀ (n : Nat) (L L' : List ByteArray), L.length ≤ n → L'.Sublist L → (dist L').length ≤ (dist L).length
  | _, [], L', _, h => by rw [List.sublist_nil.1 h]; exact Nat.le_refl _
  | 0, x :: r, _, hn, _ => by simp at hn
  | n + 1, x :: r, L', hn, h => by
    rw [dist_cons, ← dist_del x L']
    have h2 : (L'.filter (fun z => !(z.toList == x.toList))).Sublist (r.filter (fun z => !(z.toList == x.toList))) := by
      have := h.filter (fun z => !(z.toList == x.toList))
      rw [List.filter_cons, if_neg (by simp)] at this
      exact this
    have h3 := dist_sub n _ _ (Nat.le_trans (List.length_filter_le _ _) (by simpa using hn)) h2
    split <;> omega
theorem once_le : ∀ (l L : List ByteArray), (l.map ByteArray.toList).Nodup → (∀ x ∈ l, L.any (fun z => z.toList == x.toList) = true) → l.length ≤ (dist L).length
  | [], _, _, _ => Nat.zero_le _
  | x :: l, L, hn, h => by
    rw [List.map_cons, List.nodup_cons] at hn
    have h1 := h x (by simp)
    have h2 := dist_del x L
    rw [if_pos h1] at h2
    have h3 := once_le l (L.filter (fun z => !(z.toList == x.toList))) hn.2 (fun y hy => by
      have hne : (y.toList == x.toList) = false := by
        cases e : (y.toList == x.toList)
        · rfl
        · exact absurd (by simp only [beq_iff_eq] at e; rw [← e]; exact List.mem_map.2 ⟨y, hy, rfl⟩) hn.1
      rw [any_filter_ne hne]
      exact h y (by simp [hy]))
    rw [List.length_cons]; omega
theorem roomsL_sub {l' l : List Mem} (h : l'.Sublist l) : (roomsL l').Sublist (roomsL l) := (h.map _).reverse
theorem cnt_sub {L' L : List ByteArray} (h : L'.Sublist L) (s : ByteArray) : cnt L' s ≤ cnt L s := (h.filter _).length_le
/-- a search, and who is left out -/
theorem find_left {α : Type} {p q : α → Bool} {l : List α} (h : ∀ x ∈ l, p x = true → q x = true) : (l.filter q).find? p = l.find? p := by
  rw [List.find?_filter]
  induction l with
  | nil => rfl
  | cons x r ih =>
    have ih := ih (fun y hy => h y (by simp [hy]))
    have hx := h x (by simp)
    rw [List.find?_cons, List.find?_cons, ih]
    cases hp : p x
    · simp
    · simp [hx hp]
theorem find_app {α : Type} {p : α → Bool} {l : List α} {x y : α} (h : l.find? p = some x) : (l ++ [y]).find? p = some x := by
  rw [List.find?_append, h]; rfl
end Go.Proofs.Ytbaobonlolbnpaa
