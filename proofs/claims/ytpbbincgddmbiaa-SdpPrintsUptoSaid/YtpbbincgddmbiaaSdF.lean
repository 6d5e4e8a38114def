/- a text, line by line. -/
import Derived.Test.YtpbbincgddmbiaaSdP
namespace Go.Proofs.Ytpbbincgddmbiaa
open Go.RowKit
set_option linter.unusedSimpArgs false

/-- what is left of a text, behind i lines -/
def goS (s : List UInt8) (i : Nat) (cn : Bool) (x : Ss) : Ss × Int × Int :=
  match runS (linesS s).1 i cn x with
  | .error (n, e) => (noSs, n, e)
  | .ok y => if (linesS s).2 = true ∨ i + (linesS s).1.length < 4 then (noSs, ((i + (linesS s).1.length : Nat) : Int) + 1, 2) else (y, 0, 0)
theorem parseS_go {s : List UInt8} (h : ¬ 8192 < s.length) : parseS s = goS s 0 false noSs := by
  unfold parseS goS
  rw [if_neg h]
  simp only [Nat.zero_add]
  rfl
theorem goS_nil (i : Nat) (cn : Bool) (x : Ss) : goS [] i cn x = if i < 4 then (noSs, (i : Int) + 1, 2) else (x, 0, 0) := by
  unfold goS
  have h : linesS [] = ([], false) := rfl
  rw [h]
  simp [runS]
theorem goS_tail {s : List UInt8} (h0 : s ≠ []) (h : (Lib.cut s crlf).2.2 = false) (i : Nat) (cn : Bool) (x : Ss) : goS s i cn x = (noSs, (i : Int) + 1, 2) := by
  have hn : ∀ j, Lib.occAt s crlf j = false := by
    rcases Lib.index_spec s crlf with ⟨_, hn⟩ | ⟨k, _, _, ho, hno⟩
    · intro j
      by_cases hj : j ≤ s.length
      · exact hn j hj
      · exact occ_short (by omega)
    · rw [(cut_hit hno ho).1] at h; cases h
  unfold goS
  rw [linesS_miss hn]
  have : (!s.isEmpty) = true := by
    cases s
    · exact absurd rfl h0
    · rfl
  rw [this]
  simp [runS]
theorem goS_line {s l r : List UInt8} (h : Lib.cut s crlf = (l, r, true)) (i : Nat) (cn : Bool) (x : Ss) :
    (goS s i cn x = match stepS i cn x l with | .error e => (noSs, (i : Int) + 1, e) | .ok (y, d) => goS r (i + 1) d y) ∧ l.length + 2 + r.length = s.length := by
  rcases Lib.index_spec s crlf with ⟨e, hn⟩ | ⟨k, _, _, ho, hno⟩
  · have hm := cut_miss (s := s) (fun j => by
      by_cases hj : j ≤ s.length
      · exact hn j hj
      · exact occ_short (by omega))
    rw [hm] at h
    injection h with _ h
    injection h with _ h
    cases h
  · obtain ⟨hc, hk⟩ := cut_hit hno ho
    rw [hc] at h
    injection h with h1 h
    injection h with h2 _
    refine ⟨?_, by rw [← h1, ← h2, List.length_take, List.length_drop]; omega⟩
    have hl := linesS_hit hno ho
    rw [h1, h2] at hl
    unfold goS
    rw [hl]
    dsimp only [runS]
    cases stepS i cn x l with
    | error e => rfl
    | ok p =>
      obtain ⟨y, d⟩ := p
      dsimp only
      rw [List.length_cons, show i + ((linesS r).1.length + 1) = i + 1 + (linesS r).1.length by omega]
theorem step_61 (i : Nat) (cn : Bool) (x : Ss) (v : List UInt8) : stepS i cn x (61 :: 61 :: v) = .error 2 := by
  unfold stepS
  simp
theorem kind_ways (l : List UInt8) : (∃ k v, l = k :: 61 :: v ∧ (k == 61) = false ∧ Lib.cut l [61] = ([k], v, true)) ∨
    ((∀ i cn x, stepS i cn x l = .error 2) ∧ ((Lib.cut l [61]).1.length ≠ 1 ∨ ((Lib.cut l [61]).1.length = 1 ∧ Lib.hasPrefix l ((Lib.cut l [61]).1 ++ [61]) = false))) := by
  have hbad : (∀ v k, l = k :: 61 :: v → k = 61) → ∀ i cn x, stepS i cn x l = .error 2 := by
    intro h i cn x
    cases hb : lineB l
    · exact step_bad hb
    · obtain ⟨a, v, rfl⟩ := lineB_form hb
      rw [h v a rfl]
      exact step_61 i cn x v
  rcases Lib.index_spec l [61] with ⟨_, hn⟩ | ⟨k, _, hkl, ho, hno⟩
  · have hn' : ∀ j, Lib.occAt l [61] j = false := fun j => by
      by_cases hj : j ≤ l.length
      · exact hn j hj
      · exact occ_one_short (by omega)
    refine .inr ⟨hbad fun v k e => ?_, ?_⟩
    · have := hn' 1
      rw [e, occ_one (by simp)] at this
      simp at this
    · rw [cut1_miss hn']
      by_cases h1 : l.length = 1
      · refine .inr ⟨h1, ?_⟩
        match l, h1 with
        | [k], _ => simp [Lib.hasPrefix, List.isPrefixOf]
      · exact .inl h1
  · have hk : k < l.length := by
      apply Classical.byContradiction
      intro hx
      rw [occ_one_short (by omega)] at ho
      cases ho
    have hc := cut1_hit hno hk ho
    rw [occ_one hk] at ho
    have hk1 : l[k] = 61 := (by simpa using ho : (61 : UInt8) = l[k]).symm
    by_cases h1 : k = 1
    · subst h1
      match l, hk with
      | a :: b :: v, _ =>
        have hb : b = 61 := hk1
        subst hb
        refine .inl ⟨a, v, rfl, ?_, hc⟩
        have := hno 0 (by omega)
        rw [occ_one (by simp)] at this
        simp only [List.getElem_cons_zero] at this
        cases e : (a == 61)
        · rfl
        · have e2 : a = 61 := by simpa using e
          rw [e2] at this
          cases this
    · refine .inr ⟨hbad fun v a e => ?_, .inl ?_⟩
      · subst e
        by_cases h0 : k = 0
        · subst h0
          exact hk1
        · have := hno 1 (by omega)
          rw [occ_one (by simp)] at this
          simp at this
      · rw [hc]
        show (l.take k).length ≠ 1
        rw [List.length_take]
        omega
theorem cut_len {s sep a b : List UInt8} {c : Bool} (h : Lib.cut s sep = (a, b, c)) : a.length ≤ s.length ∧ b.length ≤ s.length := by
  unfold Lib.cut at h
  split at h
  · injection h with h1 h
    injection h with h2 h3
    rw [← h1, ← h2, List.length_take, List.length_drop]
    omega
  · injection h with h1 h
    injection h with h2 h3
    rw [← h1, ← h2]
    simp
theorem bsA_size (l : List UInt8) : (bsA l).size = l.length := by simp [bsA, ByteArray.size]
theorem bsA_list (l : List UInt8) : (bsA l).data.toList = l := rfl
theorem cutP {I : Img} {M : List Res} {w : World} {m : Int} {a b : List UInt8} {c : Bool} (s sep : ByteArray) (hst : St I M w) (hm : I.cell? ⟨0, 0, none⟩ = some (.int .i64 m)) (hs : s.size ≤ 1000000) (hc : Lib.cut s.data.toList sep.data.toList = (a, b, c)) :
    Calls Try.prog 19 #[.string s, .string sep] w fun e w' => e = .returned (.tuple #[.string (bsA a), .string (bsA b), .bool c]) ∧ St I M w' := by
  refine (Try.strings_Cut s sep m w (by omega) (hst.cell hm)).mono ?_
  rintro e w' ⟨rfl, n, rfl⟩
  rw [hc]
  exact ⟨rfl, hst.drewN n⟩
theorem valueP2 {I : Img} {M : List Res} {w : World} (s : ByteArray) (hst : St I M w) (hs : s.size ≤ maxLen) : Calls Try.prog 21 #[.string s] w fun e w' => e = .returned (.bool (valB s 200)) ∧ St I M w' := by
  refine (valueP s w hs).mono ?_
  rintro e w' ⟨rfl, hb⟩
  exact ⟨rfl, hst.below hb⟩
theorem goodP2 {I : Img} {M : List Res} {w : World} (n v : ByteArray) (hst : St I M w) (hn : n.size ≤ maxLen) (hv : v.size ≤ maxLen) : Calls Try.prog 22 #[.agg #[.string n, .string v]] w fun e w' => e = .returned (.bool (goodB n v)) ∧ St I M w' := by
  refine (goodP n v w hn hv).mono ?_
  rintro e w' ⟨rfl, hb⟩
  exact ⟨rfl, hst.below hb⟩
/-- an attribute: the two spellings of what is right -/
theorem attr_ways {v a b : List UInt8} {c : Bool} (h : Lib.cut v [58] = (a, b, c)) : (attrS v).1 = ⟨bsA a, bsA b⟩ ∧ (attrS v).2 = (goodB (bsA a) (bsA b) && !(c && decide (b.length = 0))) := by
  unfold attrS
  rw [h]
  refine ⟨rfl, ?_⟩
  unfold goodB
  rw [bsA_size]
  dsimp only
  have hv0 : b.length = 0 → valB (bsA b) 200 = false := fun e => by
    unfold valB
    rw [bsA_size, e]
    simp
  have hcb : c = false → b = [] := fun e => by
    subst e
    unfold Lib.cut at h
    split at h
    · injection h with _ h
      injection h with _ h
      cases h
    · injection h with _ h
      injection h with h _
      exact h.symm
  cases hw : wordB (bsA a) 1 32
  · rfl
  cases c
  · have := hcb rfl
    subst this
    rfl
  · by_cases hb : b.length = 0
    · rw [hv0 hb]
      simp [hb]
    · simp [hb]
theorem res10 (w : World) (q : Nat) (a b c : ByteArray) (d e : Value) (n f : Int) (tmps : Array Value) (ht : tmps[2]? = some (.pointer (some ⟨q, 0, none⟩))) (h3 : tmps[3]? = some (.int .i64 n)) (h4 : tmps[4]? = some (.int .i64 f)) (h : Blk w q 33 #[.string a, .string b, .string c, d, e]) :
    (results Try.f10 tmps).run Try.prog w = .ok (.tuple #[.agg #[.string a, .string b, .string c, d, e], .int .i64 n, .int .i64 f]) w := by
  have c0 := h.cell 0
  have c1 := h.cell 1
  have c2 := h.cell 2
  have c3 := h.cell 3
  have c4 := h.cell 4
  simp only [List.getElem?_toArray, List.getElem?_cons_zero, List.getElem?_cons_succ] at c0 c1 c2 c3 c4
  simp [results, Try.results10, go_sem, ht, h3, h4, c0, c1, c2, c3, c4]
end Go.Proofs.Ytpbbincgddmbiaa
