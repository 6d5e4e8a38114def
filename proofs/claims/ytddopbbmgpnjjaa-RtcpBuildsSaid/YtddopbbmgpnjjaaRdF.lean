/- arrivals' marks: plain. -/
import Derived.Test.YtddopbbmgpnjjaaRdE
namespace Go.Proofs.Ytddopbbmgpnjjaa
open Go.RowKit
set_option linter.unusedSimpArgs false

def mkN (l : List Int) (j : Nat) : Nat := if h : j < l.length then (markOf l[j]).toNat else 0
theorem mkN_le (l : List Int) (j : Nat) : mkN l j ≤ 2 := by
  unfold mkN
  split
  · have := markOf_ok (l[j]); omega
  · omega
theorem mkN_in {l : List Int} {j : Nat} (h : j < l.length) : (mkN l j : Int) = markOf l[j] := by
  unfold mkN
  rw [dif_pos h]
  have := markOf_ok (l[j])
  omega
theorem mkN_out {l : List Int} {j : Nat} (h : l.length ≤ j) : mkN l j = 0 := by
  unfold mkN
  rw [dif_neg (by omega)]
/-- marks from number i on, of k arrivals, as a number -/
def cv (l : List Int) (i : Nat) : Nat → Nat
  | 0 => 0
  | k + 1 => 4 * cv l i k + mkN l (i + k)
theorem cv_lt (l : List Int) (i : Nat) : ∀ k, cv l i k < 4 ^ k
  | 0 => by simp [cv]
  | k + 1 => by
    have h1 := cv_lt l i k
    have h2 := mkN_le l (i + k)
    rw [Nat.pow_succ]
    unfold cv
    omega
theorem cv_out (l : List Int) (i k : Nat) (h : l.length ≤ i + k) : ∀ d, cv l i (k + d) = cv l i k * 4 ^ d
  | 0 => by simp
  | d + 1 => by
    show 4 * cv l i (k + d) + mkN l (i + (k + d)) = _
    rw [cv_out l i k h d, mkN_out (by omega), Nat.pow_succ]
    rw [Nat.add_zero, Nat.mul_comm 4, Nat.mul_assoc]
def wordR (l : List Int) (i : Nat) : Int := 49152 + (cv l i 7 : Nat)
def marksT (l : List Int) : Nat → List UInt8
  | 0 => []
  | t + 1 => marksT l t ++ u16B (wordR l (7 * t))
theorem marksT_len (l : List Int) : ∀ t, (marksT l t).length = 2 * t
  | 0 => rfl
  | t + 1 => by
    show (marksT l t ++ u16B _).length = _
    rw [List.length_append, marksT_len l t, u16B_len]; omega
def farO (a : Int) : List UInt8 := if markOf a = 1 then [byteOf (a % 256)] else if markOf a = 2 then u16B (a % 65536) else []
theorem farO_le (a : Int) : (farO a).length ≤ 2 := by
  unfold farO
  repeat' split
  · simp
  · rw [u16B_len]; omega
  · simp
theorem or_u16_low (a b s : Nat) (hb : b < 2 ^ s) (hl : a * 2 ^ s + b < 65536) : bits BinOp.or IntKind.u16 ((a * 2 ^ s : Nat) : Int) (b : Int) = ((a * 2 ^ s + b : Nat) : Int) := by
  have hor : a * 2 ^ s ||| b = a * 2 ^ s + b := by
    have := Nat.shiftLeft_add_eq_or_of_lt (b := b) (i := s) hb a
    rw [Nat.shiftLeft_eq] at this
    exact this.symm
  generalize a * 2 ^ s = p at hor hl ⊢
  rw [or_u16 p b (by omega) (by omega), hor]
/-- one more mark -/
theorem ch_next (A m k : Nat) (hk : k < 7) (hA : A < 4 ^ k) (hm : m ≤ 2) : bits BinOp.or IntKind.u16 ((A * 2 ^ (14 - 2 * k) : Nat) : Int) (IntKind.u16.wrap ((m : Int) * 2 ^ (12 - 2 * k))) = (((4 * A + m) * 2 ^ (12 - 2 * k) : Nat) : Int) := by
  have h7 : k = 0 ∨ k = 1 ∨ k = 2 ∨ k = 3 ∨ k = 4 ∨ k = 5 ∨ k = 6 := by omega
  have key : ∀ p q : Nat, 2 ^ (14 - 2 * k) = 2 ^ p → 2 ^ (12 - 2 * k) = 2 ^ q → p = q + 2 → (A + 1) * 2 ^ p ≤ 16384 → bits BinOp.or IntKind.u16 ((A * 2 ^ (14 - 2 * k) : Nat) : Int) (IntKind.u16.wrap ((m : Int) * 2 ^ (12 - 2 * k))) = (((4 * A + m) * 2 ^ (12 - 2 * k) : Nat) : Int) := by
    intro p q h1 h2 hp hle
    have h2' : ((2 : Int) ^ (12 - 2 * k)) = ((2 ^ q : Nat) : Int) := by rw [← h2]; simp
    rw [h1, h2, h2', hp]
    have e4 : 2 ^ (q + 2) = 4 * 2 ^ q := by rw [Nat.pow_add]; omega
    rw [hp, e4] at hle
    have hmq : m * 2 ^ q < 2 ^ (q + 2) := by
      rw [e4]
      have : 0 < 2 ^ q := Nat.two_pow_pos q
      calc m * 2 ^ q ≤ 2 * 2 ^ q := Nat.mul_le_mul_right _ hm
        _ < 4 * 2 ^ q := by omega
    have hsum : A * 2 ^ (q + 2) + m * 2 ^ q < 65536 := by
      rw [e4] at hmq ⊢
      rw [Nat.add_mul] at hle
      omega
    have h3 : IntKind.u16.wrap ((m : Int) * ((2 ^ q : Nat) : Int)) = ((m * 2 ^ q : Nat) : Int) := by
      rw [u16_mod, ← Int.natCast_mul]
      generalize m * 2 ^ q = z at hmq hsum ⊢
      omega
    rw [h3, or_u16_low A (m * 2 ^ q) (q + 2) hmq hsum, e4]
    congr 1
    rw [Nat.add_mul, Nat.mul_left_comm, Nat.mul_assoc]
  rcases h7 with rfl | rfl | rfl | rfl | rfl | rfl | rfl
  · exact key 14 12 rfl rfl rfl (by simp at hA ⊢; omega)
  · exact key 12 10 rfl rfl rfl (by simp at hA ⊢; omega)
  · exact key 10 8 rfl rfl rfl (by simp at hA ⊢; omega)
  · exact key 8 6 rfl rfl rfl (by simp at hA ⊢; omega)
  · exact key 6 4 rfl rfl rfl (by simp at hA ⊢; omega)
  · exact key 4 2 rfl rfl rfl (by simp at hA ⊢; omega)
  · exact key 2 0 rfl rfl rfl (by simp at hA ⊢; omega)
theorem top_or (x : Nat) (h : x < 16384) : bits BinOp.or IntKind.u16 49152 (x : Int) = 49152 + (x : Int) := by
  have := or_u16_low 3 x 14 (by simpa using h) (by simp; omega)
  have e : ((3 * 2 ^ 14 : Nat) : Int) = 49152 := by decide
  have e2 : ((3 * 2 ^ 14 + x : Nat) : Int) = 49152 + (x : Int) := by simp
  rw [e, e2] at this
  exact this
theorem fold_state (l : List Int) : ∀ j, j ≤ l.length → (((l.take j).map markP).foldl (stepM l.length) ms0).n = j ∧ (((l.take j).map markP).foldl (stepM l.length) ms0).far = (l.take j).flatMap farO ∧
    (j < l.length → (((l.take j).map markP).foldl (stepM l.length) ms0).mks = marksT l (j / 7) ∧ (((l.take j).map markP).foldl (stepM l.length) ms0).ch = ((cv l (7 * (j / 7)) (j % 7) * 2 ^ (14 - 2 * (j % 7)) : Nat) : Int)) ∧
    (j = l.length → 0 < j → (((l.take j).map markP).foldl (stepM l.length) ms0).mks = marksT l ((l.length + 6) / 7)) := by
  intro j
  induction j with
  | zero => intro _; exact ⟨rfl, rfl, fun _ => ⟨rfl, by simp [cv, ms0]⟩, fun _ h => absurd h (Nat.lt_irrefl _)⟩
  | succ j ih =>
    intro hj
    obtain ⟨h1, h2, h3, -⟩ := ih (by omega)
    obtain ⟨h4, h5⟩ := h3 (by omega)
    have htk : (l.take (j + 1)).map markP = (l.take j).map markP ++ [markP l[j]] := by
      rw [List.take_succ_eq_append_getElem (by omega), List.map_append]; rfl
    have htk2 : (l.take (j + 1)).flatMap farO = (l.take j).flatMap farO ++ farO l[j] := by
      rw [List.take_succ_eq_append_getElem (by omega), List.flatMap_append, List.flatMap_singleton]
    rw [htk, htk2, List.foldl_append]
    simp only [List.foldl_cons, List.foldl_nil]
    generalize ((l.take j).map markP).foldl (stepM l.length) ms0 = s at h1 h2 h4 h5
    have hk : j % 7 < 7 := Nat.mod_lt _ (by decide)
    have hA := cv_lt l (7 * (j / 7)) (j % 7)
    have hje : 7 * (j / 7) + j % 7 = j := Nat.div_add_mod j 7
    have hmi := mkN_in (l := l) (j := j) (by omega)
    have hch : chM s (markOf l[j]) = ((cv l (7 * (j / 7)) (j % 7 + 1) * 2 ^ (12 - 2 * (j % 7)) : Nat) : Int) := by
      unfold chM
      rw [h5, h1, ← hmi, ch_next _ _ _ hk hA (mkN_le l j)]
      show _ = (((4 * cv l (7 * (j / 7)) (j % 7) + mkN l (7 * (j / 7) + j % 7)) * 2 ^ (12 - 2 * (j % 7)) : Nat) : Int)
      rw [hje]
    have hfar : (stepM l.length s (markP l[j])).far = s.far ++ farO l[j] := by
      show (if markOf l[j] = 1 then s.far ++ [byteOf (l[j] % 256)] else if markOf l[j] = 2 then s.far ++ u16B (l[j] % 65536) else s.far) = _
      unfold farO
      split
      · rfl
      · split
        · rfl
        · simp
    have hn : (stepM l.length s (markP l[j])).n = j + 1 := by show s.n + 1 = _; rw [h1]
    refine ⟨hn, by rw [hfar, h2], fun hlt => ?_, fun he _ => ?_⟩
    · by_cases hf : (j + 1) % 7 = 0
      · have hfull : fullM l.length s = true := by unfold fullM; rw [h1, decide_eq_true hf]; rfl
        have hk6 : j % 7 = 6 := by omega
        have hd : (j + 1) / 7 = j / 7 + 1 := by omega
        constructor
        · show (if fullM l.length s then s.mks ++ u16B (bits BinOp.or IntKind.u16 49152 (chM s (markOf l[j]))) else s.mks) = _
          rw [hfull, if_pos rfl, hch, hk6, hd, h4]
          have h7 := cv_lt l (7 * (j / 7)) 7
          have e : cv l (7 * (j / 7)) (6 + 1) * 2 ^ (12 - 2 * 6) = cv l (7 * (j / 7)) 7 := by simp
          rw [e, top_or _ (by simpa using h7)]
          rfl
        · show (if fullM l.length s then (0 : Int) else chM s (markOf l[j])) = _
          rw [hfull, if_pos rfl, hf]
          simp [cv]
      · have hfull : fullM l.length s = false := by unfold fullM; rw [h1, decide_eq_false hf, decide_eq_false (by omega)]; rfl
        have hd : (j + 1) / 7 = j / 7 := by omega
        have hm : (j + 1) % 7 = j % 7 + 1 := by omega
        constructor
        · show (if fullM l.length s then s.mks ++ u16B (bits BinOp.or IntKind.u16 49152 (chM s (markOf l[j]))) else s.mks) = _
          rw [hfull, hd, h4]; rfl
        · show (if fullM l.length s then (0 : Int) else chM s (markOf l[j])) = _
          rw [hfull, hd, hm, hch]
          have e : 14 - 2 * (j % 7 + 1) = 12 - 2 * (j % 7) := by omega
          rw [e]; rfl
    · have hfull : fullM l.length s = true := by unfold fullM; rw [h1, decide_eq_true he, Bool.or_true]
      show (if fullM l.length s then s.mks ++ u16B (bits BinOp.or IntKind.u16 49152 (chM s (markOf l[j]))) else s.mks) = _
      have hd : (l.length + 6) / 7 = j / 7 + 1 := by omega
      have h7 := cv_lt l (7 * (j / 7)) 7
      have ho := cv_out l (7 * (j / 7)) (j % 7 + 1) (by omega) (6 - j % 7)
      have e7 : j % 7 + 1 + (6 - j % 7) = 7 := by omega
      have e4 : (4 : Nat) ^ (6 - j % 7) = 2 ^ (12 - 2 * (j % 7)) := by
        have : 12 - 2 * (j % 7) = 2 * (6 - j % 7) := by omega
        rw [this, Nat.pow_mul]
      rw [e7, e4] at ho
      rw [hfull, if_pos rfl, hch, hd, h4, ← ho, top_or _ (by simpa using h7)]
      rfl
/-- marks and distances, as the document has them -/
theorem arrsL_eq (l : List Int) (h : 0 < l.length) : arrsL l = marksT l ((l.length + 6) / 7) ++ l.flatMap farO := by
  obtain ⟨_, h2, _, h4⟩ := fold_state l l.length (Nat.le_refl _)
  rw [List.take_length] at h2 h4
  unfold arrsL arrsM
  rw [h2, h4 rfl h]
end Go.Proofs.Ytddopbbmgpnjjaa
