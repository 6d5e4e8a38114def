/- texts that are put together of lines; what a program that does nothing answers wrongly. -/
import Derived.Test.YtpbbincgddmbiaaSdF
namespace Go.Proofs.Ytpbbincgddmbiaa
open Go.RowKit
set_option linter.unusedSimpArgs false

def Yes (I : Img) (M : List Res) : Ending → World → Prop := Ret I (fun v _ M' => v = .bool true ∧ M' = M)
theorem occ_no {s : List UInt8} {j : Nat} (h : ∀ (hj : j < s.length), s[j] ≠ 13) : Lib.occAt s crlf j = false := by
  by_cases hj : j < s.length
  · unfold Lib.occAt crlf
    rw [List.drop_eq_getElem_cons hj]
    have := h hj
    simp only [List.isPrefixOf]
    have : (13 == s[j]) = false := by simp; exact fun e => this e.symm
    rw [this, Bool.false_and]
  · exact occ_short (by omega)
theorem cut_line {l : List UInt8} (r : List UInt8) (h : ∀ b ∈ l, b ≠ 13) : Lib.cut (l ++ 13 :: 10 :: r) crlf = (l, r, true) := by
  have hno : Lib.NoOcc (l ++ 13 :: 10 :: r) crlf l.length := fun j hj => occ_no fun h2 => by
    rw [List.getElem_append_left hj]
    exact h _ (List.getElem_mem hj)
  have ho : Lib.occAt (l ++ 13 :: 10 :: r) crlf l.length = true := by
    unfold Lib.occAt crlf
    rw [List.drop_left]
    rfl
  rw [(cut_hit hno ho).1, List.take_left, ← List.drop_drop, List.drop_left]
  rfl
theorem goS_step {l : List UInt8} (r : List UInt8) (h : ∀ b ∈ l, b ≠ 13) (i : Nat) (cn : Bool) (x : Ss) :
    goS (l ++ 13 :: 10 :: r) i cn x = match stepS i cn x l with | .error e => (noSs, (i : Int) + 1, e) | .ok (y, d) => goS r (i + 1) d y := (goS_line (cut_line r h) i cn x).1
def headL : List UInt8 := [118, 61, 48, 13, 10, 111, 61, 120, 13, 10, 115, 61, 45, 13, 10, 116, 61, 48, 32, 48, 13, 10]
def headX : Ss := ⟨bsA [120], bsA [45], bsA [48, 32, 48], [], []⟩
theorem goS_head (r : List UInt8) : goS (headL ++ r) 0 false noSs = goS r 4 false headX := by
  have e : headL ++ r = [118, 61, 48] ++ 13 :: 10 :: ([111, 61, 120] ++ 13 :: 10 :: ([115, 61, 45] ++ 13 :: 10 :: ([116, 61, 48, 32, 48] ++ 13 :: 10 :: r))) := rfl
  have s0 : stepS 0 false noSs [118, 61, 48] = .ok (noSs, false) := rfl
  have s1 : stepS 1 false noSs [111, 61, 120] = .ok ((⟨bsA [120], ⟨#[]⟩, ⟨#[]⟩, [], []⟩ : Ss), false) := by
    show (if (111 : UInt8) = 111 ∧ valB (bsA [120]) 200 = true then (.ok ((⟨bsA [120], ⟨#[]⟩, ⟨#[]⟩, [], []⟩ : Ss), false) : Except Int (Ss × Bool)) else .error 2) = _
    rw [if_pos ⟨rfl, by kernel_rfl⟩]
  have s2 : stepS 2 false (⟨bsA [120], ⟨#[]⟩, ⟨#[]⟩, [], []⟩ : Ss) [115, 61, 45] = .ok (⟨bsA [120], bsA [45], ⟨#[]⟩, [], []⟩, false) := by
    show (if (115 : UInt8) = 115 ∧ valB (bsA [45]) 200 = true then (.ok (⟨bsA [120], bsA [45], ⟨#[]⟩, [], []⟩, false) : Except Int (Ss × Bool)) else .error 2) = _
    rw [if_pos ⟨rfl, by kernel_rfl⟩]
  have s3 : stepS 3 false ⟨bsA [120], bsA [45], ⟨#[]⟩, [], []⟩ [116, 61, 48, 32, 48] = .ok (headX, false) := by
    show (if (116 : UInt8) = 116 ∧ valB (bsA [48, 32, 48]) 200 = true then (.ok (headX, false) : Except Int (Ss × Bool)) else .error 2) = _
    rw [if_pos ⟨rfl, by kernel_rfl⟩]
  rw [e, goS_step _ (by decide), s0]
  dsimp only
  rw [goS_step _ (by decide), s1]
  dsimp only
  rw [goS_step _ (by decide), s2]
  dsimp only
  rw [goS_step _ (by decide), s3]
def rep (n : Nat) (l : List UInt8) : List UInt8 := match n with | 0 => [] | n + 1 => l ++ rep n l
theorem rep_snoc (l : List UInt8) : ∀ n, rep n l ++ l = rep (n + 1) l
  | 0 => by simp [rep]
  | n + 1 => by rw [rep, List.append_assoc, rep_snoc l n]; rfl
theorem rep_len (l : List UInt8) : ∀ n, (rep n l).length = n * l.length
  | 0 => by simp [rep]
  | n + 1 => by rw [rep, List.length_append, rep_len l n, Nat.add_mul, Nat.one_mul, Nat.add_comm]
/-- a line 'a=' behind four others, and more -/
theorem step_a {i : Nat} (hi : 4 ≤ i) (cn : Bool) (x : Ss) (v : List UInt8) : stepS i cn x (97 :: 61 :: v) = if (attrS v).2 = false then .error 2 else if placeLen x = 64 then .error 3 else .ok (addAttr x (attrS v).1, false) := by
  show (if i = 0 then _ else if i = 1 then _ else if i = 2 then _ else if i = 3 then _ else _) = _
  rw [if_neg (by omega), if_neg (by omega), if_neg (by omega), if_neg (by omega), if_pos rfl]
theorem step_m {i : Nat} (hi : 4 ≤ i) (cn : Bool) (x : Ss) (v : List UInt8) (hv : valB (bsA v) 200 = true) : stepS i cn x (109 :: 61 :: v) = if x.parts.length = 8 then .error 3 else .ok ({ x with parts := x.parts ++ [⟨bsA v, ⟨#[]⟩, []⟩] }, true) := by
  show (if i = 0 then _ else if i = 1 then _ else if i = 2 then _ else if i = 3 then _ else _) = _
  rw [if_neg (by omega), if_neg (by omega), if_neg (by omega), if_neg (by omega), if_neg (by decide), if_pos ⟨rfl, hv⟩]
theorem placeLen_add (x : Ss) (a : At) : placeLen (addAttr x a) = placeLen x + 1 := by
  unfold addAttr
  cases h : x.parts.getLast? with
  | none =>
    unfold placeLen
    simp [h]
  | some p =>
    have e : placeLen x = p.attrs.length := by unfold placeLen; rw [h]
    rw [e]
    unfold placeLen
    simp
theorem parts_add (x : Ss) (a : At) : (addAttr x a).parts.length = x.parts.length := by
  unfold addAttr
  cases h : x.parts.getLast? with
  | none => rfl
  | some p =>
    have : x.parts ≠ [] := by
      intro e
      rw [e] at h
      cases h
    simp only [List.length_append, List.length_dropLast, List.length_singleton]
    have := List.length_pos_iff.2 this
    omega
def addN : Nat → Ss → At → Ss
  | 0, x, _ => x
  | n + 1, x, a => addN n (addAttr x a) a
theorem parts_addN (a : At) : ∀ (n : Nat) (x : Ss), (addN n x a).parts.length = x.parts.length
  | 0, _ => rfl
  | n + 1, x => by rw [addN, parts_addN a n, parts_add]
theorem placeLen_addN (a : At) : ∀ (n : Nat) (x : Ss), placeLen (addN n x a) = placeLen x + n
  | 0, _ => rfl
  | n + 1, x => by rw [addN, placeLen_addN a n, placeLen_add]; omega
/-- right lines of attributes -/
theorem goS_attrs (v r : List UInt8) (hv : ∀ b ∈ v, b ≠ 13) (ha : (attrS v).2 = true) : ∀ (n i : Nat) (cn : Bool) (x : Ss), 4 ≤ i → placeLen x + n ≤ 64 →
    ∃ c, goS (rep n (97 :: 61 :: v ++ [13, 10]) ++ r) i cn x = goS r (i + n) c (addN n x (attrS v).1)
  | 0, i, cn, x, _, _ => ⟨cn, rfl⟩
  | n + 1, i, cn, x, hi, hn => by
    have e : rep (n + 1) (97 :: 61 :: v ++ [13, 10]) ++ r = (97 :: 61 :: v) ++ 13 :: 10 :: (rep n (97 :: 61 :: v ++ [13, 10]) ++ r) := by simp [rep]
    obtain ⟨c, hc⟩ := goS_attrs v r hv ha n (i + 1) false (addAttr x (attrS v).1) (by omega) (by rw [placeLen_add]; omega)
    refine ⟨c, ?_⟩
    rw [e, goS_step _ (by intro b hb; rcases List.mem_cons.1 hb with rfl | hb; decide; rcases List.mem_cons.1 hb with rfl | hb; decide; exact hv b hb), step_a hi, if_neg (by rw [ha]; decide), if_neg (by omega)]
    dsimp only
    rw [hc, show i + 1 + n = i + (n + 1) by omega]
    rfl
theorem goS_attrs_over (v r : List UInt8) (hv : ∀ b ∈ v, b ≠ 13) (ha : (attrS v).2 = true) (n i : Nat) (cn : Bool) (x : Ss) (hi : 4 ≤ i) (hp : placeLen x ≤ 64) (hn : 64 < placeLen x + n) :
    goS (rep n (97 :: 61 :: v ++ [13, 10]) ++ r) i cn x = (noSs, ((i + (64 - placeLen x) : Nat) : Int) + 1, 3) := by
  obtain ⟨m, hm⟩ : ∃ m, n = (64 - placeLen x) + (m + 1) := ⟨n - (64 - placeLen x) - 1, by omega⟩
  have hsplit : ∀ (a b : Nat) (l : List UInt8), rep (a + b) l = rep a l ++ rep b l := by
    intro a b l
    induction a with
    | zero => simp [rep]
    | succ k ih => rw [Nat.succ_add, rep, ih, rep, List.append_assoc]
  have e : rep n (97 :: 61 :: v ++ [13, 10]) ++ r = rep (64 - placeLen x) (97 :: 61 :: v ++ [13, 10]) ++ ((97 :: 61 :: v) ++ 13 :: 10 :: (rep m (97 :: 61 :: v ++ [13, 10]) ++ r)) := by
    rw [hm, hsplit, rep]
    simp
  obtain ⟨c, hc⟩ := goS_attrs v ((97 :: 61 :: v) ++ 13 :: 10 :: (rep m (97 :: 61 :: v ++ [13, 10]) ++ r)) hv ha (64 - placeLen x) i cn x hi (by omega)
  rw [e, hc, goS_step _ (by intro b hb; rcases List.mem_cons.1 hb with rfl | hb; decide; rcases List.mem_cons.1 hb with rfl | hb; decide; exact hv b hb), step_a (by omega), if_neg (by rw [ha]; decide), if_pos (by rw [placeLen_addN]; omega)]
/-- parts' lines -/
theorem goS_parts (v r : List UInt8) (hv : ∀ b ∈ v, b ≠ 13) (ha : valB (bsA v) 200 = true) : ∀ (n i : Nat) (cn : Bool) (x : Ss), 4 ≤ i → x.parts.length + n ≤ 8 →
    ∃ c, goS (rep n (109 :: 61 :: v ++ [13, 10]) ++ r) i cn x = goS r (i + n) c { x with parts := x.parts ++ List.replicate n ⟨bsA v, ⟨#[]⟩, []⟩ }
  | 0, i, cn, x, _, _ => ⟨cn, by simp [rep]⟩
  | n + 1, i, cn, x, hi, hn => by
    have e : rep (n + 1) (109 :: 61 :: v ++ [13, 10]) ++ r = (109 :: 61 :: v) ++ 13 :: 10 :: (rep n (109 :: 61 :: v ++ [13, 10]) ++ r) := by simp [rep]
    obtain ⟨c, hc⟩ := goS_parts v r hv ha n (i + 1) true { x with parts := x.parts ++ [⟨bsA v, ⟨#[]⟩, []⟩] } (by omega) (by simp; omega)
    refine ⟨c, ?_⟩
    rw [e, goS_step _ (by intro b hb; rcases List.mem_cons.1 hb with rfl | hb; decide; rcases List.mem_cons.1 hb with rfl | hb; decide; exact hv b hb), step_m hi _ _ _ ha, if_neg (by omega)]
    dsimp only
    rw [hc, show i + 1 + n = i + (n + 1) by omega]
    simp [List.replicate_succ]
theorem goS_parts_over (v r : List UInt8) (hv : ∀ b ∈ v, b ≠ 13) (ha : valB (bsA v) 200 = true) (n i : Nat) (cn : Bool) (x : Ss) (hi : 4 ≤ i) (hp : x.parts.length = 0) (hn : 8 < n) :
    goS (rep n (109 :: 61 :: v ++ [13, 10]) ++ r) i cn x = (noSs, ((i + 8 : Nat) : Int) + 1, 3) := by
  obtain ⟨m, rfl⟩ : ∃ m, n = 8 + (m + 1) := ⟨n - 9, by omega⟩
  have hsplit : ∀ (a b : Nat) (l : List UInt8), rep (a + b) l = rep a l ++ rep b l := by
    intro a b l
    induction a with
    | zero => simp [rep]
    | succ k ih => rw [Nat.succ_add, rep, ih, rep, List.append_assoc]
  have e : rep (8 + (m + 1)) (109 :: 61 :: v ++ [13, 10]) ++ r = rep 8 (109 :: 61 :: v ++ [13, 10]) ++ ((109 :: 61 :: v) ++ 13 :: 10 :: (rep m (109 :: 61 :: v ++ [13, 10]) ++ r)) := by
    rw [hsplit, show rep (m + 1) (109 :: 61 :: v ++ [13, 10]) = (109 :: 61 :: v ++ [13, 10]) ++ rep m (109 :: 61 :: v ++ [13, 10]) from rfl]
    simp
  obtain ⟨c, hc⟩ := goS_parts v ((109 :: 61 :: v) ++ 13 :: 10 :: (rep m (109 :: 61 :: v ++ [13, 10]) ++ r)) hv ha 8 i cn x hi (by omega)
  rw [e, hc, goS_step _ (by intro b hb; rcases List.mem_cons.1 hb with rfl | hb; decide; rcases List.mem_cons.1 hb with rfl | hb; decide; exact hv b hb), step_m (by omega) _ _ _ ha, if_pos (by simp [hp])]
/-- SdpLimits' texts -/
def limL (p n : Nat) : List UInt8 := headL ++ (rep p [109, 61, 120, 13, 10] ++ rep n [97, 61, 98, 13, 10])
theorem lim_len (p n : Nat) : (limL p n).length = 22 + (p * 5 + n * 5) := by
  unfold limL
  simp only [List.length_append, rep_len]
  rfl
theorem limits_law (p n : Nat) (hp : p < 12) (hn : n < 70) :
    if 8 < p then parseS (limL p n) = (noSs, 13, 3) else if 64 < n then parseS (limL p n) = (noSs, (p : Int) + 69, 3) else ∃ x, parseS (limL p n) = (x, 0, 0) ∧ x.parts.length = p := by
  have hm : valB (bsA [120]) 200 = true := by kernel_rfl
  have ha : (attrS [98]).2 = true := by kernel_rfl
  have hl : ¬ 8192 < (limL p n).length := by rw [lim_len]; omega
  rw [parseS_go hl]
  unfold limL
  rw [goS_head]
  split
  · rename_i h8
    exact goS_parts_over [120] (rep n [97, 61, 98, 13, 10]) (by decide) hm p 4 false headX (by omega) rfl h8
  · rename_i h8
    obtain ⟨c, hc⟩ := goS_parts [120] (rep n [97, 61, 98, 13, 10]) (by decide) hm p 4 false headX (by omega) (by show 0 + p ≤ 8; omega)
    obtain ⟨X, hX⟩ : ∃ X : Ss, X = { headX with parts := headX.parts ++ List.replicate p ⟨bsA [120], ⟨#[]⟩, []⟩ } := ⟨_, rfl⟩
    rw [← hX] at hc
    have hXl : X.parts.length = p := by rw [hX]; simp [headX]
    have hX0 : placeLen X = 0 := by
      rw [hX]
      unfold placeLen
      cases p with
      | zero => rfl
      | succ k => simp [headX, List.replicate_succ']
    have hc' : goS (rep p [109, 61, 120, 13, 10] ++ rep n [97, 61, 98, 13, 10]) 4 false headX = goS (rep n [97, 61, 98, 13, 10]) (4 + p) c X := hc
    rw [hc']
    have e0 : rep n [97, 61, 98, 13, 10] = rep n (97 :: 61 :: [98] ++ [13, 10]) ++ [] := by rw [List.append_nil]; rfl
    split
    · rename_i h64
      rw [e0, goS_attrs_over [98] [] (by decide) ha n (4 + p) c X (by omega) (by omega) (by omega), hX0]
      congr 2
      omega
    · rename_i h64
      obtain ⟨c2, hc2⟩ := goS_attrs [98] [] (by decide) ha n (4 + p) c X (by omega) (by omega)
      rw [e0, hc2, goS_nil, if_neg (by omega)]
      exact ⟨_, rfl, by rw [parts_addN, hXl]⟩
/-- SdpLines' texts -/
def badL (i : Nat) : List UInt8 := match i with | 0 => [120, 61, 49] | 1 => [97, 61] | _ => [97, 61, 98, 58]
theorem bad_step (j : Nat) {i : Nat} (hi : 4 ≤ i) (cn : Bool) (x : Ss) : stepS i cn x (badL j) = .error 2 := by
  unfold badL
  split
  · show (if i = 0 then _ else if i = 1 then _ else if i = 2 then _ else if i = 3 then _ else _) = _
    rw [if_neg (by omega), if_neg (by omega), if_neg (by omega), if_neg (by omega), if_neg (by decide), if_neg (by decide), if_neg (by rintro ⟨h, _⟩; revert h; decide)]
  · rw [step_a hi, if_pos (by kernel_rfl)]
  · rw [step_a hi, if_pos (by kernel_rfl)]
def linL (n j : Nat) (b : List UInt8) : List UInt8 := headL ++ (rep n [97, 61, 98, 58, 99, 13, 10] ++ ((badL j ++ [13, 10]) ++ b))
theorem lines_law (n j : Nat) (b : List UInt8) (hn : n < 60) (hb : b.length ≤ 3000) : parseS (linL n j b) = (noSs, (n : Int) + 5, 2) := by
  have ha : (attrS [98, 58, 99]).2 = true := by kernel_rfl
  have hj : (badL j).length ≤ 4 := by unfold badL; split <;> simp
  have hl : ¬ 8192 < (linL n j b).length := by
    unfold linL
    simp only [List.length_append, rep_len, headL, List.length_cons, List.length_nil]
    omega
  rw [parseS_go hl]
  unfold linL
  rw [goS_head]
  obtain ⟨c, hc⟩ := goS_attrs [98, 58, 99] ((badL j ++ [13, 10]) ++ b) (by decide) ha n 4 false headX (by omega) (by show 0 + n ≤ 64; omega)
  have hc' : goS (rep n [97, 61, 98, 58, 99, 13, 10] ++ ((badL j ++ [13, 10]) ++ b)) 4 false headX = goS ((badL j ++ [13, 10]) ++ b) (4 + n) c (addN n headX (attrS [98, 58, 99]).1) := hc
  have e : (badL j ++ [13, 10]) ++ b = badL j ++ 13 :: 10 :: b := by simp
  rw [hc', e, goS_step _ (by unfold badL; split <;> decide), bad_step j (by omega)]
  dsimp only
  congr 2
  omega
end Go.Proofs.Ytpbbincgddmbiaa
