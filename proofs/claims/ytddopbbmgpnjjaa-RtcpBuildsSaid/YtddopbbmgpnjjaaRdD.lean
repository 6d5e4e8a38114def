/- the document's pieces: plain. -/
import Derived.Test.YtddopbbmgpnjjaaRdC
namespace Go.Proofs.Ytddopbbmgpnjjaa
open Go.RowKit
set_option linter.unusedSimpArgs false

theorem filter_drop {α : Type} (p : α → Bool) : ∀ (r : List α), (∀ a b (_ : a < b) (hb : b < r.length), p r[b] = true → p (r[a]'(by omega)) = true) →
    ∃ m, m ≤ r.length ∧ r.filter (fun x => !p x) = r.drop m ∧ ∀ j (h : j < r.length), p r[j] = decide (j < m)
  | [], _ => ⟨0, Nat.le_refl _, rfl, fun _ h => absurd h (Nat.not_lt_zero _)⟩
  | x :: t, ha => by
    obtain ⟨m, hm, hf, hp⟩ := filter_drop p t (fun a b hab hb h => ha (a + 1) (b + 1) (by omega) (by simpa using hb) h)
    cases hx : p x
    · have hn : ∀ j (h : j < t.length), p t[j] = false := fun j h => by
        cases e : p t[j]
        · rfl
        · have := ha 0 (j + 1) (by omega) (by simpa using h) e
          rw [List.getElem_cons_zero, hx] at this
          cases this
      refine ⟨0, Nat.zero_le _, ?_, fun j h => ?_⟩
      · rw [List.filter_cons, hx]
        simp only [Bool.not_false, if_true, List.drop_zero]
        congr 1
        rw [List.filter_eq_self]
        intro y hy
        obtain ⟨j, hj, rfl⟩ := List.getElem_of_mem hy
        rw [hn j hj]; rfl
      · cases j with
        | zero => rw [List.getElem_cons_zero, hx]; rfl
        | succ j => rw [List.getElem_cons_succ, hn j (by simpa using h)]; rfl
    · refine ⟨m + 1, by simpa using hm, ?_, fun j h => ?_⟩
      · rw [List.filter_cons, hx]
        simp only [Bool.not_true, Bool.false_eq_true, if_false, List.drop_succ_cons]
        exact hf
      · cases j with
        | zero => rw [List.getElem_cons_zero, hx]; simp
        | succ j => rw [List.getElem_cons_succ, hp j (by simpa using h)]; simp
/-- how far behind the first one -/
def farF (l : List Int) (k : Nat) : Int := (l.getD k 0 - l.getD 0 0) % 65536
theorem farF_step {l : List Int} (h : Ord l) (k : Nat) (hk : k + 1 < l.length) : farF l k < farF l (k + 1) ∧ farF l (k + 1) < 32768 := by
  have h1 : ∀ j (_ : j < l.length), 0 < j → 0 < farF l j ∧ farF l j < 32768 := fun j hj h0 => by
    have := (h j hj h0).2
    unfold beforeB at this
    simp only [Bool.and_eq_true, decide_eq_true_eq] at this
    unfold farF
    rw [List.getD_eq_getElem?_getD, List.getD_eq_getElem?_getD, List.getElem?_eq_getElem hj, List.getElem?_eq_getElem (by omega)]
    exact this
  have h2 := (h (k + 1) hk (by omega)).1
  unfold beforeB at h2
  simp only [Bool.and_eq_true, decide_eq_true_eq, Nat.add_sub_cancel] at h2
  have h3 := h1 (k + 1) hk (by omega)
  have h4 : 0 ≤ farF l k ∧ farF l k < 32768 := by
    rcases Nat.eq_zero_or_pos k with e | e
    · subst e; unfold farF; omega
    · have := h1 k (by omega) e; omega
  refine ⟨?_, h3.2⟩
  have e1 : l.getD k 0 = l[k]'(by omega) := by rw [List.getD_eq_getElem?_getD, List.getElem?_eq_getElem (by omega)]; rfl
  have e2 : l.getD (k + 1) 0 = l[k + 1] := by rw [List.getD_eq_getElem?_getD, List.getElem?_eq_getElem hk]; rfl
  unfold farF at h3 h4 ⊢
  rw [e2] at h3 ⊢
  rw [e1] at h4 ⊢
  omega
theorem farF_lt {l : List Int} (h : Ord l) (i : Nat) : ∀ (d : Nat), i + d + 1 < l.length → farF l i < farF l (i + d + 1) ∧ farF l (i + d + 1) < 32768
  | 0, hk => farF_step h i hk
  | d + 1, hk => by
    have h1 := farF_lt h i d (by omega)
    have h2 := farF_step h (i + d + 1) (by omega)
    exact ⟨by have : i + (d + 1) + 1 = i + d + 1 + 1 := by omega
              rw [this]; omega, h2.2⟩
theorem near_far {l : List Int} (h : Ord l) {i k : Nat} (hik : i < k) (hk : k < l.length) : nearB (l[i]'(by omega)) l[k] = decide (farF l k - farF l i ≤ 16) := by
  obtain ⟨d, rfl⟩ : ∃ d, k = i + d + 1 := ⟨k - i - 1, by omega⟩
  have h1 := farF_lt h i d hk
  have h2 : 0 ≤ farF l i := by unfold farF; omega
  have e1 : l.getD i 0 = l[i]'(by omega) := by rw [List.getD_eq_getElem?_getD, List.getElem?_eq_getElem (by omega)]; rfl
  have e2 : l.getD (i + d + 1) 0 = l[i + d + 1] := by rw [List.getD_eq_getElem?_getD, List.getElem?_eq_getElem hk]; rfl
  unfold nearB dst
  unfold farF at h1 h2 ⊢
  rw [e2] at h1 ⊢
  rw [e1] at h1 h2 ⊢
  rw [Bool.eq_iff_iff]
  simp only [decide_eq_true_eq]
  omega
theorem far_cut {l : List Int} (h : Ord l) (c : Nat) (hc : c < l.length) :
    ∃ c', c < c' ∧ c' ≤ l.length ∧ farL l[c] (l.drop (c + 1)) = l.drop c' ∧ ∀ k (hk : k < l.length), c < k → nearB l[c] l[k] = decide (k < c') := by
  obtain ⟨m, hm, hf, hp⟩ := filter_drop (nearB l[c]) (l.drop (c + 1)) (fun a b hab hb hn => by
    rw [List.getElem_drop, near_far h (by omega) (by rw [List.length_drop] at hb; omega)] at hn ⊢
    simp only [decide_eq_true_eq] at hn ⊢
    rw [List.length_drop] at hb
    have := farF_lt h (c + 1 + a) (b - a - 1) (by omega)
    have e : c + 1 + a + (b - a - 1) + 1 = c + 1 + b := by omega
    rw [e] at this
    omega)
  rw [List.length_drop] at hm
  refine ⟨c + 1 + m, by omega, by omega, ?_, fun k hk hck => ?_⟩
  · unfold farL
    rw [hf, List.drop_drop]
  · have h2 := hp (k - (c + 1)) (by rw [List.length_drop]; omega)
    rw [List.getElem_drop] at h2
    have e : c + 1 + (k - (c + 1)) = k := by omega
    simp only [e] at h2
    rw [h2]
    congr 1
    exact propext ⟨fun _ => by omega, fun _ => by omega⟩
theorem pieces_drop {l : List Int} {c c' : Nat} (hc : c < l.length) (hf : farL l[c] (l.drop (c + 1)) = l.drop c') : piecesB (l.drop c) = pieceB (l[c], maskL l[c] (l.drop (c + 1))) ++ piecesB (l.drop c') := by
  rw [List.drop_eq_getElem_cons hc, piecesB_cons, hf]
theorem or_u16 (a b : Nat) (ha : a < 65536) (hb : b < 65536) : bits BinOp.or IntKind.u16 (a : Int) (b : Int) = ((a ||| b : Nat) : Int) := by
  have h := Nat.or_lt_two_pow (n := 16) (by simpa using ha) (by simpa using hb)
  have e2 : (BitVec.ofInt 16 (a : Int)).toNat = a := by rw [BitVec.ofInt_natCast, BitVec.toNat_ofNat]; exact Nat.mod_eq_of_lt (by omega)
  have e3 : (BitVec.ofInt 16 (b : Int)).toNat = b := by rw [BitVec.ofInt_natCast, BitVec.toNat_ofNat]; exact Nat.mod_eq_of_lt (by omega)
  show IntKind.u16.wrap ((BitVec.ofInt 16 (a : Int) ||| BitVec.ofInt 16 (b : Int)).toNat : Int) = _
  rw [BitVec.toNat_or, e2, e3]
  simp only [IntKind.wrap, IntKind.signed, IntKind.bits]
  show ((a ||| b : Nat) : Int) % 65536 = _
  omega
theorem or_i64 (a b : Nat) (ha : a < 65536) (hb : b < 65536) : bits BinOp.or IntKind.i64 (a : Int) (b : Int) = ((a ||| b : Nat) : Int) := by
  have h := Nat.or_lt_two_pow (n := 16) (by simpa using ha) (by simpa using hb)
  have e2 : (BitVec.ofInt 64 (a : Int)).toNat = a := by rw [BitVec.ofInt_natCast, BitVec.toNat_ofNat]; exact Nat.mod_eq_of_lt (by omega)
  have e3 : (BitVec.ofInt 64 (b : Int)).toNat = b := by rw [BitVec.ofInt_natCast, BitVec.toNat_ofNat]; exact Nat.mod_eq_of_lt (by omega)
  show IntKind.i64.wrap ((BitVec.ofInt 64 (a : Int) ||| BitVec.ofInt 64 (b : Int)).toNat : Int) = _
  rw [BitVec.toNat_or, e2, e3]
  exact wrap_i64 (by omega) (by omega)
theorem bit_same {s x m : Int} (hm : 0 ≤ m ∧ m ≤ 65535) (hn : nearB s x = true) : bits BinOp.or IntKind.i64 m (2 ^ (dst s x).toNat) = bitL s x m := by
  obtain ⟨a, rfl⟩ := Int.eq_ofNat_of_zero_le hm.1
  have h1 := dst_ok s x
  unfold nearB at hn
  simp only [decide_eq_true_eq] at hn
  obtain ⟨e, he⟩ : ∃ e : Nat, e = (dst s x).toNat := ⟨_, rfl⟩
  unfold bitL
  rw [← he]
  have h2 : 2 ^ e < 65536 := by
    have : 2 ^ e ≤ 2 ^ 15 := Nat.pow_le_pow_right (by decide) (by omega)
    omega
  have h3 : ((2 : Int) ^ e) = ((2 ^ e : Nat) : Int) := by simp
  rw [h3]
  generalize (2 ^ e : Nat) = p at h2 ⊢
  rw [u16_mod, or_i64 a _ (by omega) h2]
  have h4 : (p : Int) % 65536 = (p : Int) := by omega
  rw [h4, or_u16 a _ (by omega) h2]
end Go.Proofs.Ytddopbbmgpnjjaa
