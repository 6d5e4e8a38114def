/- what is printed: it is parsed as it was; what is parsed is printed as it stood. -/
import Derived.Test.YtpbbincgddmbiaaSdH
namespace Go.Proofs.Ytpbbincgddmbiaa
open Go.RowKit
set_option linter.unusedSimpArgs false

abbrev ls (s : ByteArray) : List UInt8 := s.data.toList
def valueL (v : ByteArray) : List UInt8 := if v.size = 0 then [] else 58 :: ls v
def attrL (a : At) : List UInt8 := 97 :: 61 :: (ls a.name ++ valueL a.value) ++ [13, 10]
def attrsL : List At → List UInt8
  | [] => []
  | a :: r => attrL a ++ attrsL r
def connL (v : ByteArray) : List UInt8 := if v.size = 0 then [] else 99 :: 61 :: ls v ++ [13, 10]
def partL (p : Pa) : List UInt8 := 109 :: 61 :: ls p.line ++ [13, 10] ++ (connL p.conn ++ attrsL p.attrs)
def partsL : List Pa → List UInt8
  | [] => []
  | a :: r => partL a ++ partsL r
def headS (x : Ss) : List UInt8 := [118, 61, 48] ++ 13 :: 10 :: ((111 :: 61 :: ls x.origin) ++ 13 :: 10 :: ((115 :: 61 :: ls x.name) ++ 13 :: 10 :: ((116 :: 61 :: ls x.time) ++ [13, 10])))
def printS (x : Ss) : List UInt8 := headS x ++ (attrsL x.attrs ++ partsL x.parts)
def goodAs (l : List At) : Bool := l.all fun a => goodB a.name a.value
def fitsB (l : List At) : Bool := decide (l.length ≤ 64) && goodAs l
def goodPa (p : Pa) : Bool := valB p.line 200 && ((decide (p.conn.size = 0) || valB p.conn 200) && fitsB p.attrs)
def goodS (x : Ss) : Bool := (valB x.origin 200 && (valB x.name 200 && (valB x.time 200 && (fitsB x.attrs && decide (x.parts.length ≤ 8))))) && x.parts.all goodPa
theorem bsA_ls (s : ByteArray) : bsA (ls s) = s := Lib.mk_data s
theorem ls_len (s : ByteArray) : (ls s).length = s.size := Array.length_toList ..
theorem val_no13 {s : ByteArray} {m : Int} (h : valB s m = true) : ∀ b ∈ ls s, b ≠ 13 := by
  intro b hb e
  subst e
  unfold valB at h
  have : s.data.toList.any badB = true := List.any_eq_true.2 ⟨13, hb, by decide⟩
  rw [this] at h
  cases h
theorem val_size {s : ByteArray} {m : Int} (h : valB s m = true) : ¬ s.size = 0 := by
  unfold valB at h
  intro e
  rw [e] at h
  simp at h
theorem word_no {s : ByteArray} {lo hi : Int} (h : wordB s lo hi = true) : ∀ b ∈ ls s, b ≠ 13 ∧ b ≠ 58 := by
  intro b hb
  unfold wordB at h
  have h1 : s.data.toList.all okc = true := by
    cases e : s.data.toList.all okc
    · rw [e] at h; simp at h
    · rfl
  have := List.all_eq_true.1 h1 b hb
  refine ⟨fun e => ?_, fun e => ?_⟩ <;> (subst e; revert this; decide)
theorem cut_colon {n : List UInt8} (v : List UInt8) (h : ∀ b ∈ n, b ≠ 58) : Lib.cut (n ++ 58 :: v) [58] = (n, v, true) := by
  have hno : Lib.NoOcc (n ++ 58 :: v) [58] n.length := fun j hj => by
    rw [occ_one (by simp; omega), List.getElem_append_left hj]
    have := h _ (List.getElem_mem hj)
    simp; exact fun e => this e.symm
  have ho : Lib.occAt (n ++ 58 :: v) [58] n.length = true := by
    rw [occ_one (by simp)]
    simp
  rw [cut1_hit hno (by simp) ho, List.take_left, ← List.drop_drop, List.drop_left]
  rfl
theorem cut_nocolon {n : List UInt8} (h : ∀ b ∈ n, b ≠ 58) : Lib.cut n [58] = (n, [], false) := by
  refine cut1_miss fun j => ?_
  by_cases hj : j < n.length
  · rw [occ_one hj]
    have := h _ (List.getElem_mem hj)
    simp; exact fun e => this e.symm
  · exact occ_one_short (by omega)
theorem good_parts {a b : ByteArray} (h : goodB a b = true) : wordB a 1 32 = true ∧ (b.size = 0 ∨ valB b 200 = true) := by
  unfold goodB at h
  simpa using h
theorem attrS_of {a : At} (h : goodB a.name a.value = true) : attrS (ls a.name ++ valueL a.value) = (a, true) := by
  obtain ⟨hw, hv⟩ := good_parts h
  have hc := fun b hb => (word_no hw b hb).2
  unfold attrS valueL
  by_cases h0 : a.value.size = 0
  · rw [if_pos h0, List.append_nil, cut_nocolon hc]
    obtain ⟨n, v⟩ := a
    simp only [bsA_ls]
    have h0' : v.size = 0 := h0
    rw [show wordB n 1 32 = true from hw, empty_of h0']
    rfl
  · rw [if_neg h0, cut_colon _ hc]
    have := hv.resolve_left h0
    simp only [bsA_ls, hw, this]
    rfl
theorem attr_no13 {a : At} (h : goodB a.name a.value = true) : ∀ b ∈ 97 :: 61 :: (ls a.name ++ valueL a.value), b ≠ 13 := by
  obtain ⟨hw, hv⟩ := good_parts h
  intro b hb
  rcases List.mem_cons.1 hb with rfl | hb
  · decide
  rcases List.mem_cons.1 hb with rfl | hb
  · decide
  rcases List.mem_append.1 hb with hb | hb
  · exact (word_no hw b hb).1
  · unfold valueL at hb
    split at hb
    · cases hb
    · rename_i h0
      rcases List.mem_cons.1 hb with rfl | hb
      · decide
      · exact val_no13 (hv.resolve_left h0) b hb
theorem val_line13 {k : UInt8} {s : ByteArray} {m : Int} (hk : k ≠ 13) (h : valB s m = true) : ∀ b ∈ k :: 61 :: ls s, b ≠ 13 := by
  intro b hb
  rcases List.mem_cons.1 hb with rfl | hb
  · exact hk
  rcases List.mem_cons.1 hb with rfl | hb
  · decide
  · exact val_no13 h b hb
theorem goS_attrsL (r : List UInt8) : ∀ (l : List At) (i : Nat) (cn : Bool) (x : Ss), 4 ≤ i → placeLen x + l.length ≤ 64 → goodAs l = true →
    ∃ c, goS (attrsL l ++ r) i cn x = goS r (i + l.length) c (l.foldl addAttr x)
  | [], i, cn, x, _, _, _ => ⟨cn, rfl⟩
  | a :: l, i, cn, x, hi, hn, hg => by
    have hg2 : goodB a.name a.value = true ∧ goodAs l = true := by unfold goodAs at hg ⊢; simpa using hg
    obtain ⟨c, hc⟩ := goS_attrsL r l (i + 1) false (addAttr x a) (by omega) (by rw [placeLen_add]; simp at hn; omega) hg2.2
    refine ⟨c, ?_⟩
    have e : attrsL (a :: l) ++ r = (97 :: 61 :: (ls a.name ++ valueL a.value)) ++ 13 :: 10 :: (attrsL l ++ r) := by simp [attrsL, attrL]
    rw [e, goS_step _ (attr_no13 hg2.1), step_a hi, attrS_of hg2.1, if_neg (by simp), if_neg (by simp at hn; omega)]
    dsimp only
    rw [hc, List.length_cons, show i + 1 + l.length = i + (l.length + 1) by omega]
    rfl
theorem fold_none : ∀ (l : List At) (x : Ss), x.parts = [] → l.foldl addAttr x = { x with attrs := x.attrs ++ l }
  | [], x, _ => by simp
  | a :: l, x, h => by
    have ha : addAttr x a = { x with attrs := x.attrs ++ [a] } := by unfold addAttr; rw [h]; rfl
    rw [List.foldl_cons, ha, fold_none l { x with attrs := x.attrs ++ [a] } h]
    simp
theorem fold_some (ini : List Pa) : ∀ (l : List At) (x : Ss) (p : Pa), x.parts = ini ++ [p] → l.foldl addAttr x = { x with parts := ini ++ [{ p with attrs := p.attrs ++ l }] }
  | [], x, p, h => by
    obtain ⟨a, b, c, d, e⟩ := x
    simp only at h
    simp [h]
  | a :: l, x, p, h => by
    have ha : addAttr x a = { x with parts := ini ++ [{ p with attrs := p.attrs ++ [a] }] } := by
      unfold addAttr
      have e : x.parts.getLast? = some p := by rw [h]; simp
      rw [e]
      simp [h]
    rw [List.foldl_cons, ha, fold_some ini l _ { p with attrs := p.attrs ++ [a] } rfl]
    simp
theorem step_c {i : Nat} (hi : 4 ≤ i) (x : Ss) (v : List UInt8) (hv : valB (bsA v) 200 = true) : stepS i true x (99 :: 61 :: v) = .ok (setConn x (bsA v), false) := by
  show (if i = 0 then _ else if i = 1 then _ else if i = 2 then _ else if i = 3 then _ else _) = _
  rw [if_neg (by omega), if_neg (by omega), if_neg (by omega), if_neg (by omega), if_neg (by decide), if_neg (by rintro ⟨h, _⟩; revert h; decide), if_pos ⟨rfl, rfl, hv⟩]
theorem goodPa_parts {p : Pa} (h : goodPa p = true) : valB p.line 200 = true ∧ (p.conn.size = 0 ∨ valB p.conn 200 = true) ∧ p.attrs.length ≤ 64 ∧ goodAs p.attrs = true := by
  unfold goodPa fitsB at h
  simpa using h
theorem goS_part (r : List UInt8) (p : Pa) (i : Nat) (cn : Bool) (x : Ss) (hi : 4 ≤ i) (hn : x.parts.length < 8) (hg : goodPa p = true) :
    ∃ j c, 4 ≤ j ∧ goS (partL p ++ r) i cn x = goS r j c { x with parts := x.parts ++ [p] } := by
  obtain ⟨hl, hc, ha, hga⟩ := goodPa_parts hg
  have e : partL p ++ r = (109 :: 61 :: ls p.line) ++ 13 :: 10 :: (connL p.conn ++ (attrsL p.attrs ++ r)) := by simp [partL]
  rw [e, goS_step _ (val_line13 (by decide) hl), step_m hi _ _ _ (by rw [bsA_ls]; exact hl), if_neg (by omega)]
  dsimp only
  rw [bsA_ls]
  have hfin : ∀ (c : Bool) (j : Nat) (q : Pa), 4 ≤ j → q.attrs = [] → ({ q with attrs := p.attrs } : Pa) = p → ∃ k d, 4 ≤ k ∧ goS (attrsL p.attrs ++ r) j c { x with parts := x.parts ++ [q] } = goS r k d { x with parts := x.parts ++ [p] } := by
    intro c j q hj hq hqp
    obtain ⟨d, hd⟩ := goS_attrsL r p.attrs j c { x with parts := x.parts ++ [q] } hj (by unfold placeLen; simp [hq]; exact ha) hga
    refine ⟨j + p.attrs.length, d, by omega, ?_⟩
    rw [hd, fold_some x.parts p.attrs { x with parts := x.parts ++ [q] } q rfl, hq, List.nil_append, hqp]
  unfold connL
  by_cases h0 : p.conn.size = 0
  · rw [if_pos h0, List.nil_append]
    exact hfin true (i + 1) ⟨p.line, ⟨#[]⟩, []⟩ (by omega) rfl (by obtain ⟨a, b, c⟩ := p; simp only at h0; rw [empty_of h0])
  · rw [if_neg h0]
    have hv := hc.resolve_left h0
    have e2 : (99 :: 61 :: ls p.conn ++ [13, 10]) ++ (attrsL p.attrs ++ r) = (99 :: 61 :: ls p.conn) ++ 13 :: 10 :: (attrsL p.attrs ++ r) := by simp
    rw [e2, goS_step _ (val_line13 (by decide) hv), step_c (by omega) _ _ (by rw [bsA_ls]; exact hv)]
    dsimp only
    have e3 : setConn { x with parts := x.parts ++ [⟨p.line, ⟨#[]⟩, []⟩] } (bsA (ls p.conn)) = { x with parts := x.parts ++ [⟨p.line, p.conn, []⟩] } := by
      unfold setConn
      simp [bsA_ls]
    rw [e3]
    exact hfin false (i + 1 + 1) ⟨p.line, p.conn, []⟩ (by omega) rfl rfl
theorem goS_partsL (r : List UInt8) : ∀ (l : List Pa) (i : Nat) (cn : Bool) (x : Ss), 4 ≤ i → x.parts.length + l.length ≤ 8 → l.all goodPa = true →
    ∃ j c, 4 ≤ j ∧ goS (partsL l ++ r) i cn x = goS r j c { x with parts := x.parts ++ l }
  | [], i, cn, x, hi, _, _ => ⟨i, cn, hi, by simp [partsL]⟩
  | p :: l, i, cn, x, hi, hn, hg => by
    have hg2 : goodPa p = true ∧ l.all goodPa = true := by simpa using hg
    have e : partsL (p :: l) ++ r = partL p ++ (partsL l ++ r) := by simp [partsL]
    obtain ⟨j, c, hj, h1⟩ := goS_part (partsL l ++ r) p i cn x hi (by simp at hn; omega) hg2.1
    obtain ⟨k, d, hk, h2⟩ := goS_partsL r l j c { x with parts := x.parts ++ [p] } hj (by simp at hn ⊢; omega) hg2.2
    refine ⟨k, d, hk, ?_⟩
    rw [e, h1, h2]
    simp
theorem goS_headS (x : Ss) (r : List UInt8) (h1 : valB x.origin 200 = true) (h2 : valB x.name 200 = true) (h3 : valB x.time 200 = true) : goS (headS x ++ r) 0 false noSs = goS r 4 false ⟨x.origin, x.name, x.time, [], []⟩ := by
  have e : headS x ++ r = [118, 61, 48] ++ 13 :: 10 :: ((111 :: 61 :: ls x.origin) ++ 13 :: 10 :: ((115 :: 61 :: ls x.name) ++ 13 :: 10 :: ((116 :: 61 :: ls x.time) ++ 13 :: 10 :: r))) := by simp [headS]
  have s0 : stepS 0 false noSs [118, 61, 48] = .ok (noSs, false) := rfl
  have s1 : stepS 1 false noSs (111 :: 61 :: ls x.origin) = .ok ((⟨x.origin, ⟨#[]⟩, ⟨#[]⟩, [], []⟩ : Ss), false) := by
    show (if (111 : UInt8) = 111 ∧ valB (bsA (ls x.origin)) 200 = true then (.ok ((⟨bsA (ls x.origin), ⟨#[]⟩, ⟨#[]⟩, [], []⟩ : Ss), false) : Except Int (Ss × Bool)) else .error 2) = _
    rw [bsA_ls, if_pos ⟨rfl, h1⟩]
  have s2 : stepS 2 false (⟨x.origin, ⟨#[]⟩, ⟨#[]⟩, [], []⟩ : Ss) (115 :: 61 :: ls x.name) = .ok (⟨x.origin, x.name, ⟨#[]⟩, [], []⟩, false) := by
    show (if (115 : UInt8) = 115 ∧ valB (bsA (ls x.name)) 200 = true then (.ok (⟨x.origin, bsA (ls x.name), ⟨#[]⟩, [], []⟩, false) : Except Int (Ss × Bool)) else .error 2) = _
    rw [bsA_ls, if_pos ⟨rfl, h2⟩]
  have s3 : stepS 3 false ⟨x.origin, x.name, ⟨#[]⟩, [], []⟩ (116 :: 61 :: ls x.time) = .ok (⟨x.origin, x.name, x.time, [], []⟩, false) := by
    show (if (116 : UInt8) = 116 ∧ valB (bsA (ls x.time)) 200 = true then (.ok (⟨x.origin, x.name, bsA (ls x.time), [], []⟩, false) : Except Int (Ss × Bool)) else .error 2) = _
    rw [bsA_ls, if_pos ⟨rfl, h3⟩]
  rw [e, goS_step _ (by decide), s0]
  dsimp only
  rw [goS_step _ (val_line13 (by decide) h1), s1]
  dsimp only
  rw [goS_step _ (val_line13 (by decide) h2), s2]
  dsimp only
  rw [goS_step _ (val_line13 (by decide) h3), s3]
theorem goodS_parts {x : Ss} (h : goodS x = true) : valB x.origin 200 = true ∧ valB x.name 200 = true ∧ valB x.time 200 = true ∧ x.attrs.length ≤ 64 ∧ goodAs x.attrs = true ∧ x.parts.length ≤ 8 ∧ x.parts.all goodPa = true := by
  unfold goodS fitsB at h
  simp only [Bool.and_eq_true, decide_eq_true_eq] at h
  exact ⟨h.1.1, h.1.2.1, h.1.2.2.1, h.1.2.2.2.1.1, h.1.2.2.2.1.2, h.1.2.2.2.2, h.2⟩
/-- what is printed is parsed as it was -/
theorem print_parse {x : Ss} (h : goodS x = true) (hl : ¬ 8192 < (printS x).length) : parseS (printS x) = (x, 0, 0) := by
  obtain ⟨h1, h2, h3, h4, h5, h6, h7⟩ := goodS_parts h
  rw [parseS_go hl]
  unfold printS
  rw [goS_headS x _ h1 h2 h3]
  obtain ⟨c, hc⟩ := goS_attrsL (partsL x.parts) x.attrs 4 false ⟨x.origin, x.name, x.time, [], []⟩ (by omega) (by show 0 + x.attrs.length ≤ 64; omega) h5
  rw [hc, fold_none _ _ rfl]
  obtain ⟨j, d, hj, hd⟩ := goS_partsL [] x.parts (4 + x.attrs.length) c ⟨x.origin, x.name, x.time, [] ++ x.attrs, []⟩ (by omega) (by show 0 + x.parts.length ≤ 8; omega) h7
  rw [List.append_nil] at hd
  rw [hd, goS_nil, if_neg (by omega)]
  obtain ⟨a, b, c, d, e⟩ := x
  simp
/-! what is parsed -/
theorem step_err {i : Nat} {c : Bool} {x : Ss} {l : List UInt8} {e : Int} (h : stepS i c x l = .error e) : e ≠ 0 := by
  cases hb : lineB l
  · rw [step_bad hb] at h
    injection h with h
    omega
  obtain ⟨k, v, rfl⟩ := lineB_form hb
  have e2 : (if i = 0 then (if k = 118 ∧ v = [48] then .ok (x, c) else .error 2)
    else if i = 1 then (if k = 111 ∧ valB (bsA v) 200 = true then .ok ({ x with origin := bsA v }, c) else .error 2)
    else if i = 2 then (if k = 115 ∧ valB (bsA v) 200 = true then .ok ({ x with name := bsA v }, c) else .error 2)
    else if i = 3 then (if k = 116 ∧ valB (bsA v) 200 = true then .ok ({ x with time := bsA v }, c) else .error 2)
    else if k = 97 then (if (attrS v).2 = false then .error 2 else if placeLen x = 64 then .error 3 else .ok (addAttr x (attrS v).1, false))
    else if k = 109 ∧ valB (bsA v) 200 = true then (if x.parts.length = 8 then .error 3 else .ok ({ x with parts := x.parts ++ [⟨bsA v, ⟨#[]⟩, []⟩] }, true))
    else if k = 99 ∧ c = true ∧ valB (bsA v) 200 = true then .ok (setConn x (bsA v), false)
    else (.error 2 : Except Int (Ss × Bool))) = .error e := h
  clear h
  repeat' split at e2
  all_goals (cases e2; try omega)
theorem cut_join {s l r : List UInt8} (h : Lib.cut s crlf = (l, r, true)) : s = l ++ 13 :: 10 :: r := by
  rcases Lib.index_spec s crlf with ⟨e, hn⟩ | ⟨k, _, _, ho, hno⟩
  · have hm := cut_miss (s := s) (fun j => by
      by_cases hj : j ≤ s.length
      · exact hn j hj
      · exact occ_short (by omega))
    rw [hm] at h
    injection h with _ h
    injection h with _ h
    cases h
  · obtain ⟨hc, hk⟩ := cut_hit hno ho
    rw [hc] at h
    injection h with h1 h
    injection h with h2 _
    rw [occ_two hk] at ho
    have ho2 : (s.drop k).take 2 = crlf := by simpa using ho
    have h3 : s = s.take k ++ ((s.drop k).take 2 ++ s.drop (k + 2)) := by
      rw [← List.drop_drop, List.take_append_drop, List.take_append_drop]
    rw [ho2, h1, h2] at h3
    exact h3
theorem goS_ok {s : List UInt8} {i : Nat} {c : Bool} {x y : Ss} (h : goS s i c x = (y, 0, 0)) :
    (s = [] ∧ 4 ≤ i ∧ y = x) ∨ ∃ l r z d, s = l ++ 13 :: 10 :: r ∧ stepS i c x l = .ok (z, d) ∧ goS r (i + 1) d z = (y, 0, 0) := by
  by_cases h0 : s = []
  · subst h0
    rw [goS_nil] at h
    split at h
    · injection h with _ h
      injection h with _ h
      cases h
    · injection h with h
      exact .inl ⟨rfl, by omega, h.symm⟩
  · cases hc : (Lib.cut s crlf).2.2
    · rw [goS_tail h0 hc] at h
      injection h with _ h
      injection h with _ h
      cases h
    · obtain ⟨⟨l, r, t⟩, ht⟩ : ∃ t, Lib.cut s crlf = t := ⟨_, rfl⟩
      rw [ht] at hc
      dsimp only at hc
      subst hc
      rw [(goS_line ht i c x).1] at h
      cases hs : stepS i c x l with
      | error e =>
        rw [hs] at h
        injection h with _ h
        injection h with _ h
        exact absurd h (step_err hs)
      | ok p =>
        obtain ⟨z, d⟩ := p
        rw [hs] at h
        exact .inr ⟨l, r, z, d, cut_join ht, hs, h⟩
theorem attrsL_snoc (l : List At) (a : At) : attrsL (l ++ [a]) = attrsL l ++ attrL a := by
  induction l with
  | nil => simp [attrsL]
  | cons b r ih => simp [attrsL, ih]
theorem partsL_snoc (l : List Pa) (a : Pa) : partsL (l ++ [a]) = partsL l ++ partL a := by
  induction l with
  | nil => simp [partsL]
  | cons b r ih => simp [partsL, ih]
theorem cut_colon_ways (v : List UInt8) : (∃ a b, Lib.cut v [58] = (a, b, true) ∧ v = a ++ 58 :: b) ∨ Lib.cut v [58] = (v, [], false) := by
  rcases Lib.index_spec v [58] with ⟨_, hn⟩ | ⟨k, _, hkl, ho, hno⟩
  · exact .inr (cut1_miss fun j => by
      by_cases hj : j ≤ v.length
      · exact hn j hj
      · exact occ_one_short (by omega))
  · have hk : k < v.length := by
      apply Classical.byContradiction
      intro hx
      rw [occ_one_short (by omega)] at ho
      cases ho
    have hc := cut1_hit hno hk ho
    rw [occ_one hk] at ho
    have hk1 : v[k] = 58 := (by simpa using ho : (58 : UInt8) = v[k]).symm
    refine .inl ⟨_, _, hc, ?_⟩
    have := List.drop_eq_getElem_cons hk
    rw [hk1] at this
    rw [← this, List.take_append_drop]
theorem attrS_print {v : List UInt8} (h : (attrS v).2 = true) : v = ls (attrS v).1.name ++ valueL (attrS v).1.value ∧ goodB (attrS v).1.name (attrS v).1.value = true := by
  rcases cut_colon_ways v with ⟨a, b, hc, hv⟩ | hc
  · obtain ⟨h1, h2⟩ := attr_ways hc
    rw [h] at h2
    rw [h1]
    simp only [Bool.true_and] at h2
    have hg : goodB (bsA a) (bsA b) = true ∧ ¬ b.length = 0 := by
      cases e : goodB (bsA a) (bsA b)
      · rw [e] at h2; cases h2
      · refine ⟨rfl, fun e2 => ?_⟩
        rw [e, e2] at h2
        cases h2
    refine ⟨?_, hg.1⟩
    unfold valueL
    rw [bsA_size, if_neg hg.2]
    exact hv
  · obtain ⟨h1, h2⟩ := attr_ways hc
    rw [h] at h2
    rw [h1]
    have hg : goodB (bsA v) (bsA []) = true := by
      cases e : goodB (bsA v) (bsA [])
      · rw [e] at h2; cases h2
      · rfl
    refine ⟨?_, hg⟩
    show v = v ++ []
    rw [List.append_nil]
/-- behind the head -/
structure Good (c : Bool) (x : Ss) : Prop where
  good : goodS x = true
  bare : c = true → ∃ ini p, x.parts = ini ++ [p] ∧ p.conn = ⟨#[]⟩ ∧ p.attrs = []
theorem Good.step {i : Nat} {c d : Bool} {x y : Ss} {l : List UInt8} (hi : 4 ≤ i) (h : Good c x) (e : stepS i c x l = .ok (y, d)) : Good d y ∧ printS y = printS x ++ (l ++ [13, 10]) := by
  cases hb : lineB l
  · rw [step_bad hb] at e
    cases e
  obtain ⟨k, v, rfl⟩ := lineB_form hb
  obtain ⟨h1, h2, h3, h4, h5, h6, h7⟩ := goodS_parts h.good
  have e2 : (if k = 97 then (if (attrS v).2 = false then .error 2 else if placeLen x = 64 then .error 3 else .ok (addAttr x (attrS v).1, false))
    else if k = 109 ∧ valB (bsA v) 200 = true then (if x.parts.length = 8 then .error 3 else .ok ({ x with parts := x.parts ++ [⟨bsA v, ⟨#[]⟩, []⟩] }, true))
    else if k = 99 ∧ c = true ∧ valB (bsA v) 200 = true then .ok (setConn x (bsA v), false)
    else (.error 2 : Except Int (Ss × Bool))) = .ok (y, d) := by
    have : (if i = 0 then _ else if i = 1 then _ else if i = 2 then _ else if i = 3 then _ else _) = _ := e
    rw [if_neg (by omega), if_neg (by omega), if_neg (by omega), if_neg (by omega)] at this
    exact this
  clear e
  split at e2
  · rename_i hk
    subst hk
    split at e2
    · cases e2
    rename_i ha
    split at e2
    · cases e2
    rename_i hp
    injection e2 with e2
    injection e2 with e2 e3
    subst e2 e3
    obtain ⟨hv, hg⟩ := attrS_print (v := v) (by simpa using ha)
    generalize (attrS v).1 = a at hv hg
    subst hv
    unfold addAttr
    cases hL : x.parts.getLast? with
    | none =>
      have hn : x.parts = [] := List.getLast?_eq_none_iff.1 hL
      have hpl : placeLen x = x.attrs.length := by unfold placeLen; rw [hL]
      refine ⟨⟨?_, fun h => by cases h⟩, ?_⟩
      · unfold goodS fitsB goodAs
        simp only [List.length_append, List.length_singleton, List.all_append, List.all_cons, List.all_nil, Bool.and_true, h1, h2, h3, h7, hg, decide_eq_true h6, Bool.true_and]
        rw [show x.attrs.all (fun a => goodB a.name a.value) = true from h5, decide_eq_true (by omega)]
        rfl
      · unfold printS headS
        simp [attrsL_snoc, attrL, hn, partsL]
    | some p =>
      have hini : x.parts = x.parts.dropLast ++ [p] := by
        have hne : x.parts ≠ [] := by intro e; rw [e] at hL; cases hL
        have := List.dropLast_concat_getLast hne
        rw [List.getLast?_eq_some_getLast hne] at hL
        injection hL with hL
        rw [hL] at this
        exact this.symm
      have hpl : placeLen x = p.attrs.length := by unfold placeLen; rw [hL]
      rw [hini, List.all_append] at h7
      simp only [List.all_cons, List.all_nil, Bool.and_true, Bool.and_eq_true] at h7
      obtain ⟨g1, g2, g3, g4⟩ := goodPa_parts h7.2
      have hlen : (x.parts.dropLast ++ [{ p with attrs := p.attrs ++ [a] }]).length = x.parts.length := by rw [hini]; simp
      refine ⟨⟨?_, fun h => by cases h⟩, ?_⟩
      · have hgp : goodPa { p with attrs := p.attrs ++ [a] } = true := by
          unfold goodPa fitsB goodAs
          simp only [List.length_append, List.length_singleton, List.all_append, List.all_cons, List.all_nil, Bool.and_true, g1, hg, Bool.true_and]
          rw [show p.attrs.all (fun a => goodB a.name a.value) = true from g4, decide_eq_true (show p.attrs.length + 1 ≤ 64 by omega)]
          rcases g2 with g2 | g2
          · rw [decide_eq_true g2]; rfl
          · rw [g2, Bool.or_true]; rfl
        unfold goodS fitsB
        dsimp only
        rw [hlen, List.all_append, List.all_cons, List.all_nil, Bool.and_true, hgp, h7.1, h1, h2, h3, h5, decide_eq_true h4, decide_eq_true h6]
        rfl
      · unfold printS headS
        dsimp only
        rw [partsL_snoc]
        conv => rhs; rw [hini, partsL_snoc]
        simp [partL, attrsL_snoc, attrL]
  · split at e2
    · rename_i hk
      obtain ⟨rfl, hv⟩ := hk
      split at e2
      · cases e2
      rename_i hp
      injection e2 with e2
      injection e2 with e2 e3
      subst e2 e3
      refine ⟨⟨?_, fun _ => ⟨x.parts, _, rfl, rfl, rfl⟩⟩, ?_⟩
      · have hgp : goodPa ⟨bsA v, ⟨#[]⟩, []⟩ = true := by
          unfold goodPa
          rw [hv]
          rfl
        unfold goodS fitsB
        dsimp only
        rw [List.length_append, List.length_singleton, List.all_append, List.all_cons, List.all_nil, Bool.and_true, hgp, h7, h1, h2, h3, h5, decide_eq_true h4, decide_eq_true (show x.parts.length + 1 ≤ 8 by omega)]
        rfl
      · unfold printS headS
        dsimp only
        rw [partsL_snoc]
        have : partL ⟨bsA v, ⟨#[]⟩, []⟩ = 109 :: 61 :: v ++ [13, 10] := by unfold partL connL; simp [attrsL, bsA, ByteArray.size]
        rw [this]
        simp
    · split at e2
      · rename_i hk
        obtain ⟨rfl, rfl, hv⟩ := hk
        injection e2 with e2
        injection e2 with e2 e3
        subst e2 e3
        obtain ⟨ini, p, hini, hc0, ha0⟩ := h.bare rfl
        have hL : x.parts.getLast? = some p := by rw [hini]; simp
        have hD : x.parts.dropLast = ini := by rw [hini]; simp
        unfold setConn
        rw [hL]
        dsimp only
        rw [hD]
        rw [hini, List.all_append] at h7
        simp only [List.all_cons, List.all_nil, Bool.and_true, Bool.and_eq_true] at h7
        obtain ⟨g1, g2, g3, g4⟩ := goodPa_parts h7.2
        have hlen : (ini ++ [{ p with conn := bsA v }]).length = x.parts.length := by rw [hini]; simp
        refine ⟨⟨?_, fun h => by cases h⟩, ?_⟩
        · have hgp : goodPa { p with conn := bsA v } = true := by
            unfold goodPa fitsB
            simp only [g1, g4, hv, decide_eq_true g3, Bool.or_true]
            rfl
          unfold goodS fitsB
          dsimp only
          rw [hlen, List.all_append, List.all_cons, List.all_nil, Bool.and_true, hgp, h7.1, h1, h2, h3, h5, decide_eq_true h4, decide_eq_true h6]
          rfl
        · have hvs : ¬ (bsA v).size = 0 := val_size hv
          unfold printS headS
          dsimp only
          rw [partsL_snoc, hini, partsL_snoc]
          have c1 : connL p.conn = [] := by rw [hc0]; rfl
          have c2 : connL (bsA v) = 99 :: 61 :: v ++ [13, 10] := by unfold connL; rw [if_neg hvs]
          simp [partL, c1, c2, ha0, attrsL]
      · cases e2
theorem goS_good : ∀ (n : Nat) (s : List UInt8) (i : Nat) (c : Bool) (x y : Ss), s.length ≤ n → 4 ≤ i → Good c x → goS s i c x = (y, 0, 0) → goodS y = true ∧ printS y = printS x ++ s
  | n, s, i, c, x, y, hn, hi, hg, h => by
    rcases goS_ok h with ⟨rfl, _, rfl⟩ | ⟨l, r, z, d, rfl, hs, hr⟩
    · exact ⟨hg.good, (List.append_nil _).symm⟩
    · obtain ⟨h1, h2⟩ := hg.step hi hs
      match n, hn with
      | 0, hn => simp at hn
      | n + 1, hn =>
        obtain ⟨h3, h4⟩ := goS_good n r (i + 1) d z y (by simp at hn; omega) (by omega) h1 hr
        refine ⟨h3, ?_⟩
        rw [h4, h2]
        simp
theorem head_ok {i : Nat} {c : Bool} {x z : Ss} {d : Bool} {l : List UInt8} (hi : i < 4) (h : stepS i c x l = .ok (z, d)) :
    ∃ k v, l = k :: 61 :: v ∧ d = c ∧ ((i = 0 ∧ k = 118 ∧ v = [48] ∧ z = x) ∨ (i = 1 ∧ k = 111 ∧ valB (bsA v) 200 = true ∧ z = { x with origin := bsA v }) ∨
      (i = 2 ∧ k = 115 ∧ valB (bsA v) 200 = true ∧ z = { x with name := bsA v }) ∨ (i = 3 ∧ k = 116 ∧ valB (bsA v) 200 = true ∧ z = { x with time := bsA v })) := by
  cases hb : lineB l
  · rw [step_bad hb] at h
    cases h
  obtain ⟨k, v, rfl⟩ := lineB_form hb
  have e2 : (if i = 0 then (if k = 118 ∧ v = [48] then .ok (x, c) else .error 2)
    else if i = 1 then (if k = 111 ∧ valB (bsA v) 200 = true then .ok ({ x with origin := bsA v }, c) else .error 2)
    else if i = 2 then (if k = 115 ∧ valB (bsA v) 200 = true then .ok ({ x with name := bsA v }, c) else .error 2)
    else if i = 3 then (if k = 116 ∧ valB (bsA v) 200 = true then .ok ({ x with time := bsA v }, c) else .error 2)
    else (stepS i c x (k :: 61 :: v) : Except Int (Ss × Bool))) = .ok (z, d) := by
    by_cases h3 : i = 3
    · subst h3; exact h
    by_cases h2 : i = 2
    · subst h2; exact h
    by_cases h1 : i = 1
    · subst h1; exact h
    obtain rfl : i = 0 := by omega
    exact h
  refine ⟨k, v, rfl, ?_⟩
  split at e2
  · split at e2
    · rename_i h0 h1
      cases e2
      exact ⟨rfl, .inl ⟨h0, h1.1, h1.2, rfl⟩⟩
    · cases e2
  split at e2
  · split at e2
    · rename_i h0 h1
      cases e2
      exact ⟨rfl, .inr (.inl ⟨h0, h1.1, h1.2, rfl⟩)⟩
    · cases e2
  split at e2
  · split at e2
    · rename_i h0 h1
      cases e2
      exact ⟨rfl, .inr (.inr (.inl ⟨h0, h1.1, h1.2, rfl⟩))⟩
    · cases e2
  split at e2
  · split at e2
    · rename_i h0 h1
      cases e2
      exact ⟨rfl, .inr (.inr (.inr ⟨h0, h1.1, h1.2, rfl⟩))⟩
    · cases e2
  · omega
/-- what is parsed is printed as it stood -/
theorem parse_print {s : List UInt8} {y : Ss} (h : parseS s = (y, 0, 0)) : goodS y = true ∧ printS y = s ∧ ¬ 8192 < s.length := by
  by_cases hl : 8192 < s.length
  · unfold parseS at h
    rw [if_pos hl] at h
    injection h with _ h
    injection h with _ h
    cases h
  rw [parseS_go hl] at h
  rcases goS_ok h with ⟨_, h0, _⟩ | ⟨l0, s1, z0, d0, rfl, e0, h⟩
  · omega
  obtain ⟨k0, v0, rfl, rfl, f0⟩ := head_ok (by omega) e0
  clear e0
  obtain ⟨_, rfl, rfl, rfl⟩ : (0 = 0 ∧ k0 = 118 ∧ v0 = [48] ∧ z0 = noSs) := by
    rcases f0 with e | e | e | e
    · exact e
    · omega
    · omega
    · omega
  rcases goS_ok h with ⟨_, h0, _⟩ | ⟨l1, s2, z1, d1, rfl, e1, h⟩
  · omega
  obtain ⟨k1, v1, rfl, rfl, f1⟩ := head_ok (by omega) e1
  clear e1
  obtain ⟨_, rfl, g1, rfl⟩ : (0 + 1 = 1 ∧ k1 = 111 ∧ valB (bsA v1) 200 = true ∧ z1 = { noSs with origin := bsA v1 }) := by
    rcases f1 with e | e | e | e
    · omega
    · exact e
    · omega
    · omega
  rcases goS_ok h with ⟨_, h0, _⟩ | ⟨l2, s3, z2, d2, rfl, e2, h⟩
  · omega
  obtain ⟨k2, v2, rfl, rfl, f2⟩ := head_ok (by omega) e2
  clear e2
  obtain ⟨_, rfl, g2, rfl⟩ : (0 + 1 + 1 = 2 ∧ k2 = 115 ∧ valB (bsA v2) 200 = true ∧ z2 = { ({ noSs with origin := bsA v1 } : Ss) with name := bsA v2 }) := by
    rcases f2 with e | e | e | e
    · omega
    · omega
    · exact e
    · omega
  rcases goS_ok h with ⟨_, h0, _⟩ | ⟨l3, s4, z3, d3, rfl, e3, h⟩
  · omega
  obtain ⟨k3, v3, rfl, rfl, f3⟩ := head_ok (by omega) e3
  clear e3
  obtain ⟨_, rfl, g3, rfl⟩ : (0 + 1 + 1 + 1 = 3 ∧ k3 = 116 ∧ valB (bsA v3) 200 = true ∧ z3 = { ({ ({ noSs with origin := bsA v1 } : Ss) with name := bsA v2 } : Ss) with time := bsA v3 }) := by
    rcases f3 with e | e | e | e
    · omega
    · omega
    · omega
    · exact e
  have hgood : Good false ⟨bsA v1, bsA v2, bsA v3, [], []⟩ := by
    refine ⟨?_, fun h => by cases h⟩
    unfold goodS
    dsimp only
    rw [g1, g2, g3]
    rfl
  obtain ⟨h1, h2⟩ := goS_good s4.length s4 _ _ _ _ (Nat.le_refl _) (by omega) hgood h
  refine ⟨h1, ?_, hl⟩
  rw [h2]
  simp [printS, headS, attrsL, partsL, ls, bsA]
end Go.Proofs.Ytpbbincgddmbiaa
