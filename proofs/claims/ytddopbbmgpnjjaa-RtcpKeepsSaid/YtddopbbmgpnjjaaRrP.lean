/- the pieces of missing ones, as they are read: they come back in order. -/
import Derived.Test.YtddopbbmgpnjjaaRrC
namespace Go.Proofs.Ytddopbbmgpnjjaa
open Go.RowKit
set_option linter.unusedSimpArgs false

def bitB (m : Int) (i : Nat) : Bool := m.toNat.testBit i
/-- what a piece tells, of its first k bits -/
def expK (s m : Int) (k : Nat) : List Int := s :: ((List.range k).filter (bitB m)).map (fun (i : Nat) => (s + (i : Int) + 1) % 65536)
theorem expK_succ (s m : Int) (k : Nat) : expK s m (k + 1) = if bitB m k then expK s m k ++ [(s + (k : Int) + 1) % 65536] else expK s m k := by
  unfold expK
  rw [List.range_succ, List.filter_append]
  cases h : bitB m k <;> simp [h]
theorem expK_len (s m : Int) (k : Nat) : (expK s m k).length ≤ k + 1 := by
  unfold expK
  rw [List.length_cons, List.length_map]
  have := List.length_filter_le (bitB m) (List.range k)
  rw [List.length_range] at this
  omega
theorem expK_rng {s m : Int} (hs : 0 ≤ s ∧ s ≤ 65535) (k : Nat) : Rng (expK s m k) := by
  intro x hx
  unfold expK at hx
  rcases List.mem_cons.1 hx with rfl | hx
  · exact hs
  · obtain ⟨i, _, rfl⟩ := List.mem_map.1 hx
    omega
theorem bit_test {m : Int} (h0 : 0 ≤ m) (h1 : m ≤ 65535) (k : Nat) : bits BinOp.and IntKind.u16 (m / 2 ^ k) 1 = if bitB m k then 1 else 0 := by
  obtain ⟨x, rfl⟩ := Int.eq_ofNat_of_zero_le h0
  have e1 : ((x : Int) / 2 ^ k) = ((x / 2 ^ k : Nat) : Int) := by simp
  have hx : x / 2 ^ k < 65536 := by
    have := Nat.div_le_self x (2 ^ k)
    omega
  rw [e1]
  unfold bitB
  rw [Int.toNat_natCast, Nat.testBit_eq_decide_div_mod_eq]
  generalize x / 2 ^ k = y at hx
  have e2 : (BitVec.ofInt 16 (y : Int)).toNat = y := by rw [BitVec.ofInt_natCast, BitVec.toNat_ofNat]; exact Nat.mod_eq_of_lt (by omega)
  show IntKind.u16.wrap ((BitVec.ofInt 16 (y : Int) &&& BitVec.ofInt 16 (1 : Int)).toNat : Int) = _
  rw [BitVec.toNat_and, e2, show (BitVec.ofInt 16 (1 : Int)).toNat = 2 ^ 1 - 1 from rfl, Nat.and_two_pow_sub_one_eq_mod, u16_mod]
  have h2 : y % 2 = 0 ∨ y % 2 = 1 := by omega
  rcases h2 with h2 | h2 <;> simp [h2]
theorem mask_bit (s : Int) (r : List Int) (i : Nat) (_hi : i < 16) : bitB (maskL s r) i = r.any (fun x => nearB s x && decide ((dst s x).toNat = i)) := by
  unfold maskL
  suffices h : ∀ (r : List Int) (m : Int), 0 ≤ m ∧ m ≤ 65535 → bitB (r.foldl (fun m x => if nearB s x then bitL s x m else m) m) i = (bitB m i || r.any (fun x => nearB s x && decide ((dst s x).toNat = i))) by
    rw [h r 0 (by decide)]
    simp [bitB]
  intro r
  induction r with
  | nil => intro m _; simp
  | cons x t ih =>
    intro m hm
    rw [List.foldl_cons, List.any_cons]
    cases hn : nearB s x
    · simp only [Bool.false_eq_true, if_false, Bool.false_and, Bool.false_or]
      exact ih m hm
    · simp only [if_true, Bool.true_and]
      have hb : 0 ≤ bitL s x m ∧ bitL s x m ≤ 65535 := bits_u16 _ _ _ rfl
      rw [ih _ hb]
      have h1 := dst_ok s x
      unfold nearB at hn
      simp only [decide_eq_true_eq] at hn
      obtain ⟨e, he⟩ : ∃ e : Nat, e = (dst s x).toNat := ⟨_, rfl⟩
      have h2 : 2 ^ e < 65536 := by
        have : 2 ^ e ≤ 2 ^ 15 := Nat.pow_le_pow_right (by decide) (by omega)
        omega
      have e3 : bitL s x m = ((m.toNat ||| 2 ^ e : Nat) : Int) := by
        unfold bitL
        rw [← he]
        have h3 : ((2 : Int) ^ e) = ((2 ^ e : Nat) : Int) := by simp
        rw [h3, u16_mod, show ((2 ^ e : Nat) : Int) % 65536 = ((2 ^ e : Nat) : Int) from (by generalize (2 ^ e : Nat) = p at h2; omega)]
        have := or_u16 m.toNat (2 ^ e) (by omega) h2
        rwa [show ((m.toNat : Nat) : Int) = m by omega] at this
      have e4 : bitB (bitL s x m) i = (bitB m i || decide (e = i)) := by
        rw [e3]
        unfold bitB
        rw [Int.toNat_natCast, Nat.testBit_or, Nat.testBit_two_pow]
      rw [e4, ← he, Bool.or_assoc]
theorem srt_filter : ∀ (n : Nat) (D : List Nat) (P : Nat → Bool), D.Pairwise (· < ·) → (∀ x ∈ D, x < n) → (∀ i, i < n → (P i = true ↔ i ∈ D)) → (List.range n).filter P = D
  | 0, D, P, _, hl, _ => by
    cases D with
    | nil => rfl
    | cons a t => exact absurd (hl a (by simp)) (Nat.not_lt_zero _)
  | n + 1, D, P, hp, hl, hP => by
    rw [List.range_succ, List.filter_append]
    cases h : P n
    · have hn : n ∉ D := fun hm => by rw [(hP n (by omega)).2 hm] at h; cases h
      rw [srt_filter n D P hp (fun x hx => by
        have := hl x hx
        rcases Nat.lt_or_ge x n with h1 | h1
        · exact h1
        · exact absurd ((show x = n by omega) ▸ hx) hn) (fun i hi => hP i (by omega))]
      simp [h]
    · have hn : n ∈ D := (hP n (by omega)).1 h
      rcases List.eq_nil_or_concat D with rfl | ⟨D', d, rfl⟩
      · cases hn
      · rw [List.concat_eq_append] at hp hl hP hn ⊢
        rw [List.pairwise_append] at hp
        have hd : d = n := by
          rcases List.mem_append.1 hn with h1 | h1
          · have h2 := hp.2.2 n h1 d (by simp)
            have h3 := hl d (by simp)
            omega
          · exact (List.mem_singleton.1 h1).symm
        subst hd
        rw [srt_filter d D' P hp.1 (fun x hx => hp.2.2 x hx d (by simp)) (fun i hi => by
          rw [hP i (by omega), List.mem_append, List.mem_singleton]
          exact ⟨fun h => h.resolve_right (by omega), .inl⟩)]
        simp [h]
theorem filter_pre {α : Type} (p : α → Bool) (r : List α) (m : Nat) (hp : ∀ j (h : j < r.length), p r[j] = decide (j < m)) : r.filter p = r.take m := by
  conv => lhs; rw [← List.take_append_drop m r]
  rw [List.filter_append]
  have h1 : (r.take m).filter p = r.take m := by
    rw [List.filter_eq_self]
    intro y hy
    obtain ⟨j, hj, rfl⟩ := List.getElem_of_mem hy
    rw [List.length_take] at hj
    rw [List.getElem_take, hp j (by omega)]
    exact decide_eq_true (by omega)
  have h2 : (r.drop m).filter p = [] := by
    rw [List.filter_eq_nil_iff]
    intro y hy
    obtain ⟨j, hj, rfl⟩ := List.getElem_of_mem hy
    rw [List.length_drop] at hj
    rw [List.getElem_drop, hp (m + j) (by omega)]
    simp
  rw [h1, h2, List.append_nil]
theorem exp_piece {l : List Int} (h : Ord l) (hr : Rng l) (c : Nat) (hc : c < l.length) (c' : Nat) (h1 : c < c') (h2 : c' ≤ l.length) (hn : ∀ k (hk : k < l.length), c < k → nearB l[c] l[k] = decide (k < c')) :
    expK l[c] (maskL l[c] (l.drop (c + 1))) 16 = (l.drop c).take (c' - c) := by
  have hf : (l.drop (c + 1)).filter (nearB l[c]) = (l.drop (c + 1)).take (c' - (c + 1)) := filter_pre _ _ _ (fun j hj => by
    rw [List.length_drop] at hj
    rw [List.getElem_drop, hn _ (by omega) (by omega)]
    congr 1
    exact propext ⟨fun _ => by omega, fun _ => by omega⟩)
  have hd : ∀ k (hk : k < l.length), c < k → (dst l[c] l[k] : Int) = farF l k - farF l c - 1 := fun k hk hck => by
    have h3 := farF_lt h c (k - c - 1) (by omega)
    rw [show c + (k - c - 1) + 1 = k by omega] at h3
    have e1 : l.getD c 0 = l[c] := by rw [List.getD_eq_getElem?_getD, List.getElem?_eq_getElem hc]; rfl
    have e2 : l.getD k 0 = l[k] := by rw [List.getD_eq_getElem?_getD, List.getElem?_eq_getElem hk]; rfl
    unfold dst
    unfold farF at h3 ⊢
    rw [e1, e2] at h3 ⊢
    omega
  have hD : (List.range 16).filter (bitB (maskL l[c] (l.drop (c + 1)))) = ((l.drop (c + 1)).take (c' - (c + 1))).map (fun x => (dst l[c] x).toNat) := by
    refine srt_filter 16 _ _ ?_ ?_ ?_
    · rw [List.pairwise_map, List.pairwise_iff_getElem]
      intro i j hi hj hij
      rw [List.length_take, List.length_drop] at hi hj
      rw [List.getElem_take, List.getElem_take, List.getElem_drop, List.getElem_drop, hd _ (by omega) (by omega), hd _ (by omega) (by omega)]
      have h3 := farF_lt h (c + 1 + i) (j - i - 1) (by omega)
      rw [show c + 1 + i + (j - i - 1) + 1 = c + 1 + j by omega] at h3
      have h4 := farF_lt h c i (by omega)
      rw [show c + i + 1 = c + 1 + i by omega] at h4
      omega
    · intro x hx
      obtain ⟨y, hy, rfl⟩ := List.mem_map.1 hx
      rw [← hf, List.mem_filter] at hy
      have h3 := hy.2
      unfold nearB at h3
      simp only [decide_eq_true_eq] at h3
      have := dst_ok l[c] y
      omega
    · intro i hi
      rw [mask_bit _ _ _ hi, List.any_eq_true, ← hf, List.mem_map]
      constructor
      · rintro ⟨y, hy, h3⟩
        rw [Bool.and_eq_true, decide_eq_true_eq] at h3
        exact ⟨y, List.mem_filter.2 ⟨hy, h3.1⟩, h3.2⟩
      · rintro ⟨y, hy, h3⟩
        rw [List.mem_filter] at hy
        exact ⟨y, hy.1, by rw [Bool.and_eq_true, decide_eq_true_eq]; exact ⟨hy.2, h3⟩⟩
  unfold expK
  rw [hD, List.map_map]
  have e0 : (l.drop c).take (c' - c) = l[c] :: (l.drop (c + 1)).take (c' - (c + 1)) := by
    rw [List.drop_eq_getElem_cons hc, show c' - c = (c' - (c + 1)) + 1 by omega, List.take_succ_cons]
  rw [e0]
  congr 1
  conv => rhs; rw [← List.map_id ((l.drop (c + 1)).take (c' - (c + 1)))]
  refine List.map_congr_left (fun x hx => ?_)
  have hm : x ∈ l := List.mem_of_mem_drop (List.mem_of_mem_take hx)
  have h3 := hr x hm
  have h4 := hr l[c] (List.getElem_mem hc)
  have h5 := dst_ok l[c] x
  show (l[c] + (((dst l[c] x).toNat : Nat) : Int) + 1) % 65536 = x
  rw [show (((dst l[c] x).toNat : Nat) : Int) = dst l[c] x by omega]
  unfold dst
  omega
theorem pieces_exp {l : List Int} (h : Ord l) (hr : Rng l) : ∀ (n c : Nat), l.length - c ≤ n → c ≤ l.length → (piecesP (l.drop c)).flatMap (fun x => expK x.1 x.2 16) = l.drop c
  | 0, c, hn, hc => by
    rw [List.drop_eq_nil_of_le (by omega), piecesP]
    rfl
  | n + 1, c, hn, hc => by
    rcases Nat.lt_or_ge c l.length with h1 | h1
    · obtain ⟨c', h2, h3, hf, hN⟩ := far_cut h c h1
      have e1 : piecesP (l.drop c) = (l[c], maskL l[c] (l.drop (c + 1))) :: piecesP (l.drop c') := by
        rw [List.drop_eq_getElem_cons h1, piecesP, hf]
      rw [e1, List.flatMap_cons, pieces_exp h hr n c' (by omega) h3]
      show expK l[c] (maskL l[c] (l.drop (c + 1))) 16 ++ l.drop c' = _
      rw [exp_piece h hr c h1 c' h2 h3 hN]
      have e2 : l.drop c' = (l.drop c).drop (c' - c) := by rw [List.drop_drop, show c + (c' - c) = c' by omega]
      rw [e2, List.take_append_drop]
    · rw [List.drop_eq_nil_of_le h1, piecesP]
      rfl
theorem pieces_back {l : List Int} (h : Ord l) (hr : Rng l) : (piecesP l).flatMap (fun x => expK x.1 x.2 16) = l := by
  have := pieces_exp h hr l.length 0 (by omega) (by omega)
  rwa [List.drop_zero] at this
theorem pieces_rng : ∀ (n : Nat) (l : List Int), l.length ≤ n → Rng l → ∀ x ∈ piecesP l, (0 ≤ x.1 ∧ x.1 ≤ 65535) ∧ (0 ≤ x.2 ∧ x.2 ≤ 65535)
  | _, [], _, _ => by rw [piecesP]; intro x hx; cases hx
  | n, s :: r, hn, hr => by
    rw [piecesP]
    intro x hx
    rcases List.mem_cons.1 hx with rfl | hx
    · exact ⟨hr s (by simp), maskL_ok s r⟩
    · cases n with
      | zero => simp at hn
      | succ n =>
        refine pieces_rng n (farL s r) ?_ (fun y hy => hr y (List.mem_cons_of_mem _ (List.mem_filter.1 hy).1)) x hx
        have := farL_le s r
        simp at hn
        omega
theorem ord_sort {l : List Int} (h : Ord l) (h0 : 0 < l.length) : SortK l[0] l := by
  intro i j hij hj
  have h1 := farF_lt h i (j - i - 1) (by omega)
  rw [show i + (j - i - 1) + 1 = j by omega] at h1
  have e0 : l.getD 0 0 = l[0] := by rw [List.getD_eq_getElem?_getD, List.getElem?_eq_getElem h0]; rfl
  have e1 : l.getD i 0 = l[i]'(by omega) := by rw [List.getD_eq_getElem?_getD, List.getElem?_eq_getElem (by omega)]; rfl
  have e2 : l.getD j 0 = l[j] := by rw [List.getD_eq_getElem?_getD, List.getElem?_eq_getElem hj]; rfl
  unfold keyS
  unfold farF at h1
  rw [e0, e1, e2] at h1
  omega
theorem exp_num {s : Int} {k : Nat} (_h0 : 0 ≤ s) (_h1 : s ≤ 65535) (_hk : k < 16) : IntKind.u16.wrap (IntKind.u16.wrap (s + (k : Int)) + 1) = (s + (k : Int) + 1) % 65536 := by
  rw [u16_mod, u16_mod]
  omega
theorem row_first {l : List Int} {cs : Array Value} {n : Nat} (h : cs.toList.take n = flat u16C l) (h0 : 0 < l.length) : cs[0]? = some (.int .u16 l[0]) := by
  cases l with
  | nil => cases h0
  | cons a t =>
    have h1 := congrArg (fun z : List Value => z[0]?) h
    simp only [flat, List.cons_append, List.nil_append, List.getElem?_cons_zero] at h1
    rw [List.getElem?_take] at h1
    split at h1
    · rw [← Array.getElem?_toList]; exact h1
    · cases h1
theorem rdPc {r a b : RS} {x n : Int} {y : Int × Int} {t : List UInt8} (hy : (0 ≤ y.1 ∧ y.1 ≤ 65535) ∧ (0 ≤ y.2 ∧ y.2 ≤ 65535)) (hr : r = (pieceB y ++ t, false)) (h1 : Rd2 r x a) (h2 : Rd2 a n b) : y = (x, n) ∧ b = (t, false) := by
  obtain ⟨s, q⟩ := y
  simp only at hy
  have e0 : pieceB (s, q) ++ t = u16B s ++ (u16B q ++ t) := by simp [pieceB]
  rw [e0] at hr
  obtain ⟨a1, hr⟩ := rd2_of h1 hy.1 hr
  obtain ⟨a2, hr6⟩ := rd2_of h2 hy.2 hr
  rw [a1, a2]
  exact ⟨rfl, hr6⟩
end Go.Proofs.Ytddopbbmgpnjjaa
