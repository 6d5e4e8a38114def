/- token.Check: what it answers, plain. -/
import Derived.Test.YtakgdmcekhafoaaDoorToL
import Derived.Lib.AtoiErrMem
namespace Go.Proofs.YtakgdmcekhafoaaDoor
open Go.RowKit
set_option linter.unusedSimpArgs false

def zeroCl : Cl := ⟨⟨#[]⟩, ⟨#[]⟩, 0, 0⟩
def hexB (l : List UInt8) : Bool := l.all (hexSet.contains ·)
/-- the claims that a text says, and its seal -/
def partsR (s : List UInt8) : Option (Cl × List UInt8) :=
  match splitC 46 s with
  | [p0, p1, p2, p3, p4] =>
    if p4.length = 40 ∧ hexB p4 = true then
      match NuS.readR 4611686018427387904 p2, NuS.readR 7 p3 with
      | some u, some r => if goodC ⟨bsA p0, bsA p1, u, r⟩ = true then some (⟨bsA p0, bsA p1, u, r⟩, p4) else none
      | _, _ => none
    else none
  | _ => none
def checkR (kb s : List UInt8) (now : Int) : Cl × Int :=
  match partsR s with
  | none => (zeroCl, 2)
  | some (c, h) => if hexT kb c = h then (if c.til < now then (zeroCl, 5) else (c, 0)) else (zeroCl, 4)
theorem check_none {kb s : List UInt8} {now : Int} (h : partsR s = none) : checkR kb s now = (zeroCl, 2) := by unfold checkR; rw [h]
theorem check_auth {kb s h : List UInt8} {c : Cl} {now : Int} (hp : partsR s = some (c, h)) (hn : hexT kb c ≠ h) : checkR kb s now = (zeroCl, 4) := by
  unfold checkR
  rw [hp]
  simp only
  rw [if_neg hn]
theorem check_old {kb s h : List UInt8} {c : Cl} {now : Int} (hp : partsR s = some (c, h)) (hn : hexT kb c = h) (ht : c.til < now) : checkR kb s now = (zeroCl, 5) := by
  unfold checkR
  rw [hp]
  simp only
  rw [if_pos hn, if_pos ht]
theorem check_ok {kb s h : List UInt8} {c : Cl} {now : Int} (hp : partsR s = some (c, h)) (hn : hexT kb c = h) (ht : ¬ c.til < now) : checkR kb s now = (c, 0) := by
  unfold checkR
  rw [hp]
  simp only
  rw [if_pos hn, if_neg ht]
theorem parts_len {s : List UInt8} (h : (splitC 46 s).length ≠ 5) : partsR s = none := by
  unfold partsR
  split
  · rename_i e
    rw [e] at h
    exact absurd rfl h
  · rfl
theorem parts_five {s p0 p1 p2 p3 p4 : List UInt8} (e : splitC 46 s = [p0, p1, p2, p3, p4]) : partsR s = if p4.length = 40 ∧ hexB p4 = true then
      match NuS.readR 4611686018427387904 p2, NuS.readR 7 p3 with
      | some u, some r => if goodC ⟨bsA p0, bsA p1, u, r⟩ = true then some (⟨bsA p0, bsA p1, u, r⟩, p4) else none
      | _, _ => none
    else none := by
  unfold partsR
  rw [e]
theorem parts_40 {s p0 p1 p2 p3 p4 : List UInt8} (e : splitC 46 s = [p0, p1, p2, p3, p4]) (h : p4.length ≠ 40) : partsR s = none := by
  rw [parts_five e, if_neg (fun h' => h h'.1)]
theorem parts_hex {s p0 p1 p2 p3 p4 : List UInt8} (e : splitC 46 s = [p0, p1, p2, p3, p4]) (h : hexB p4 = false) : partsR s = none := by
  rw [parts_five e, if_neg (fun h' => by rw [h] at h'; cases h'.2)]
theorem parts_nu {s p0 p1 p2 p3 p4 : List UInt8} (e : splitC 46 s = [p0, p1, p2, p3, p4]) (h : NuS.readR 4611686018427387904 p2 = none) : partsR s = none := by
  rw [parts_five e, h]
  split <;> rfl
theorem parts_nr {s p0 p1 p2 p3 p4 : List UInt8} (e : splitC 46 s = [p0, p1, p2, p3, p4]) (h : NuS.readR 7 p3 = none) : partsR s = none := by
  rw [parts_five e, h]
  cases NuS.readR 4611686018427387904 p2 <;> (split <;> rfl)
theorem parts_bad {s p0 p1 p2 p3 p4 : List UInt8} {u r : Nat} (e : splitC 46 s = [p0, p1, p2, p3, p4]) (h2 : NuS.readR 4611686018427387904 p2 = some u) (h3 : NuS.readR 7 p3 = some r) (hg : goodC ⟨bsA p0, bsA p1, u, r⟩ = false) : partsR s = none := by
  rw [parts_five e, h2, h3]
  simp only [hg, Bool.false_eq_true, if_false, ite_self]
theorem parts_some {s p0 p1 p2 p3 p4 : List UInt8} {u r : Nat} (e : splitC 46 s = [p0, p1, p2, p3, p4]) (h4 : p4.length = 40) (hh : hexB p4 = true) (h2 : NuS.readR 4611686018427387904 p2 = some u) (h3 : NuS.readR 7 p3 = some r) (hg : goodC ⟨bsA p0, bsA p1, u, r⟩ = true) : partsR s = some (⟨bsA p0, bsA p1, u, r⟩, p4) := by
  rw [parts_five e, if_pos ⟨h4, hh⟩, h2, h3]
  simp only
  rw [if_pos hg]
theorem hex_trim_iff (l : List UInt8) : Lib.trimS l hexSet = [] ↔ hexB l = true := by
  have hx : ∀ l : List UInt8, l.dropWhile (hexSet.contains ·) = [] ↔ hexB l = true := fun l => by
    unfold hexB
    induction l with
    | nil => simp
    | cons a l ih =>
      rw [List.dropWhile_cons, List.all_cons]
      cases hexSet.contains a
      · simp
      · simpa using ih
  constructor
  · intro h
    unfold Lib.trimS Lib.trimRightS Lib.trimLeftS at h
    rw [hx] at h
    unfold hexB at h ⊢
    rw [List.all_eq_true] at h ⊢
    intro b hb
    cases hc : hexSet.contains b with
    | true => rfl
    | false =>
      exfalso
      have hmem : b ∈ (l.reverse.dropWhile (hexSet.contains ·)).reverse := by
        rw [List.mem_reverse]
        have hbr : b ∈ l.reverse := List.mem_reverse.2 hb
        generalize l.reverse = m at hbr
        clear h hb
        induction m with
        | nil => cases hbr
        | cons a m ih =>
          rw [List.dropWhile_cons]
          split
          · rename_i ha
            rcases List.mem_cons.1 hbr with rfl | hm
            · rw [hc] at ha; cases ha
            · exact ih hm
          · exact hbr
      have := h b hmem
      rw [hc] at this
      cases this
  · intro h
    have h2 : hexB l.reverse = true := by
      unfold hexB at h ⊢
      rw [List.all_reverse]
      exact h
    unfold Lib.trimS Lib.trimRightS
    rw [(hx _).2 h2]
    rfl
/-- the values that the program reads, whatever they are: what follows where the text comes out -/
theorem parts_text {s p0 p1 p2 p3 p4 : List UInt8} {v2 v3 : Int} (e : splitC 46 s = [p0, p1, p2, p3, p4]) (hg : goodC ⟨bsA p0, bsA p1, v2, v3⟩ = true) (ht : textC ⟨bsA p0, bsA p1, v2, v3⟩ ++ 46 :: p4 = s) :
    NuS.readR 4611686018427387904 p2 = some v2.toNat ∧ NuS.readR 7 p3 = some v3.toNat := by
  obtain ⟨g1, g2, g3, g4, g5, g6⟩ := (goodC_iff _).1 hg
  simp only at g1 g2 g3 g4 g5 g6
  have h46 : ∀ b ∈ p4, b ≠ 46 := splitC_no 46 s p4 (by rw [e]; simp)
  have e2 : splitC 46 s = [p0, p1, Lib.decDigits v2.toNat, Lib.decDigits v3.toNat, p4] := by
    rw [← ht]
    have e1 : textC ⟨bsA p0, bsA p1, v2, v3⟩ ++ 46 :: p4 = p0 ++ 46 :: (p1 ++ 46 :: (Lib.decDigits v2.toNat ++ 46 :: (Lib.decDigits v3.toNat ++ 46 :: p4))) := by
      rw [textC_dec hg]
      simp
    rw [e1, splitC_no_app 46 _ _ (word46 g1), splitC_no_app 46 _ _ (word46 g2), splitC_no_app 46 _ _ (dec46 _), splitC_no_app 46 _ _ (dec46 _), splitC_plain 46 p4 h46]
  rw [e] at e2
  simp only [List.cons.injEq, true_and, and_true] at e2
  exact ⟨NuS.readR_some.2 ⟨e2.1, by omega⟩, NuS.readR_some.2 ⟨e2.2, by omega⟩⟩
theorem split_back5 {s p0 p1 p2 p3 p4 : List UInt8} (e : splitC 46 s = [p0, p1, p2, p3, p4]) : s = p0 ++ 46 :: (p1 ++ 46 :: (p2 ++ 46 :: (p3 ++ 46 :: p4))) := by
  have h := splitC_back 46 s p0 _ e
  rw [h]
  simp [Lib.joinTail]
theorem parts_A {s p0 p1 p2 p3 p4 : List UInt8} {v2 v3 : Int} (e : splitC 46 s = [p0, p1, p2, p3, p4]) (hv2 : ∀ u : Nat, u ≤ 4611686018427387904 → p2 = Lib.decDigits u → v2 = u) (hv3 : ∀ r : Nat, r ≤ 7 → p3 = Lib.decDigits r → v3 = r)
    (hg : goodC ⟨bsA p0, bsA p1, v2, v3⟩ = false) : partsR s = none := by
  cases h2 : NuS.readR 4611686018427387904 p2 with
  | none => exact parts_nu e h2
  | some u =>
    cases h3 : NuS.readR 7 p3 with
    | none => exact parts_nr e h3
    | some r =>
      have e2 := NuS.readR_some.1 h2
      have e3 := NuS.readR_some.1 h3
      have x2 := hv2 u e2.2 e2.1
      have x3 := hv3 r e3.2 e3.1
      subst x2 x3
      exact parts_bad e h2 h3 hg
theorem parts_B {s p0 p1 p2 p3 p4 : List UInt8} {v2 v3 : Int} (e : splitC 46 s = [p0, p1, p2, p3, p4]) (hv2 : ∀ u : Nat, u ≤ 4611686018427387904 → p2 = Lib.decDigits u → v2 = u) (hv3 : ∀ r : Nat, r ≤ 7 → p3 = Lib.decDigits r → v3 = r)
    (hg : goodC ⟨bsA p0, bsA p1, v2, v3⟩ = true) (ht : textC ⟨bsA p0, bsA p1, v2, v3⟩ ++ 46 :: p4 ≠ s) : partsR s = none := by
  cases h2 : NuS.readR 4611686018427387904 p2 with
  | none => exact parts_nu e h2
  | some u =>
    cases h3 : NuS.readR 7 p3 with
    | none => exact parts_nr e h3
    | some r =>
      have e2 := NuS.readR_some.1 h2
      have e3 := NuS.readR_some.1 h3
      have x2 := hv2 u e2.2 e2.1
      have x3 := hv3 r e3.2 e3.1
      exfalso
      refine ht ?_
      rw [textC_dec hg, split_back5 e]
      simp only [x2, x3, Int.toNat_natCast]
      rw [← e2.1, ← e3.1]
      simp
theorem parts_C {s p0 p1 p2 p3 p4 : List UInt8} {v2 v3 : Int} (e : splitC 46 s = [p0, p1, p2, p3, p4]) (hg : goodC ⟨bsA p0, bsA p1, v2, v3⟩ = true) (ht : textC ⟨bsA p0, bsA p1, v2, v3⟩ ++ 46 :: p4 = s)
    (h4 : p4.length = 40) (hh : hexB p4 = true) : partsR s = some (⟨bsA p0, bsA p1, v2, v3⟩, p4) := by
  obtain ⟨h2, h3⟩ := parts_text e hg ht
  obtain ⟨_, _, g3, _, g5, _⟩ := (goodC_iff _).1 hg
  simp only at g3 g5
  have x2 : ((v2.toNat : Nat) : Int) = v2 := by omega
  have x3 : ((v3.toNat : Nat) : Int) = v3 := by omega
  have := parts_some e h4 hh h2 h3 (by rw [x2, x3]; exact hg)
  rwa [x2, x3] at this
theorem parts_size {s h : List UInt8} {c : Cl} (hp : partsR s = some (c, h)) : s.length ≤ 141 := by
  unfold partsR at hp
  split at hp
  · rename_i p0 p1 p2 p3 p4 e
    split at hp
    · rename_i h4
      split at hp
      · rename_i u r h2 h3
        split at hp
        · rename_i hg
          have e2 := NuS.readR_some.1 h2
          have e3 := NuS.readR_some.1 h3
          have hl := textC_len hg
          have ht : s = textC ⟨bsA p0, bsA p1, u, r⟩ ++ 46 :: p4 := by
            rw [textC_dec hg, split_back5 e]
            simp only [Int.toNat_natCast]
            rw [← e2.1, ← e3.1]
            simp
          rw [ht, List.length_append, List.length_cons, h4.1]
          omega
        · cases hp
      · cases hp
    · cases hp
  · cases hp
theorem split_len (c : UInt8) : ∀ (l : List UInt8), ∀ x ∈ splitC c l, x.length ≤ l.length
  | [], x, hx => by
    obtain rfl := List.mem_singleton.1 hx
    exact Nat.le_refl _
  | a :: l, x, hx => by
    have ih := split_len c l
    unfold splitC at hx
    by_cases h : a = c
    · rw [if_pos h] at hx
      rcases List.mem_cons.1 hx with rfl | hx
      · exact Nat.zero_le _
      · exact Nat.le_succ_of_le (ih x hx)
    · rw [if_neg h] at hx
      obtain ⟨y, r, e⟩ := splitC_ne c l
      rw [e] at hx
      rcases List.mem_cons.1 hx with rfl | hx
      · have := ih y (by rw [e]; simp)
        simp only [List.length_cons]
        omega
      · exact Nat.le_succ_of_le (ih x (by rw [e]; simp [hx]))
end Go.Proofs.YtakgdmcekhafoaaDoor
