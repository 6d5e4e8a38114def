/- a description half read, at its place in memory. -/
import Derived.Test.YtpbbincgddmbiaaSdD
namespace Go.Proofs.Ytpbbincgddmbiaa
open Go.RowKit
set_option linter.unusedSimpArgs false

abbrev zero5 : Array Value := #[.string ⟨#[]⟩, .string ⟨#[]⟩, .string ⟨#[]⟩, .slice none 0 0, .slice none 0 0]
abbrev head5 (x : Ss) (vA vP : Value) : Array Value := #[.string x.origin, .string x.name, .string x.time, vA, vP]
def parQ (TA TP : Nat) (M : List Res) (r : Ss × Int × Int) (v : Value) (M' : List Res) : Prop :=
  ∃ vA vP pv, partsOf pv = r.1.parts ∧ v = .tuple #[.agg (head5 r.1 vA vP), .int .i64 r.2.1, .int .i64 r.2.2] ∧ M' = sesV TA TP r.1 vA vP pv M
/-- where the next attribute goes -/
def placeAt (q : Nat) (vP : Value) (pv : List (Pa × Value)) (v : Value) : Prop :=
  (pv = [] ∧ v = .pointer (some ⟨q, 3, none⟩)) ∨ ∃ g n c, pv ≠ [] ∧ vP = .slice (some ⟨g, 0, none⟩) n c ∧ v = .pointer (some ⟨g, (pv.length - 1) * 3 + 2, none⟩)
/-- a description half read, at its place -/
abbrev half (TS TA TP q r : Nat) (x : Ss) (vA vP : Value) (pv : List (Pa × Value)) (L M : List Res) : List Res :=
  row TP 3 vP pv.length (flat paC pv) :: row TA 2 vA x.attrs.length (flat atC x.attrs) :: bk q TS (head5 x vA vP) :: bk r TS zero5 :: (L ++ (pv.map (arow TA) ++ M))
structure Small (x : Ss) (pv : List (Pa × Value)) : Prop where
  parts : partsOf pv = x.parts
  few : pv.length ≤ 8
  own : x.attrs.length ≤ 64
  each : ∀ p ∈ pv, p.1.attrs.length ≤ 64
theorem St.dropAll {I : Img} {M : List Res} {w : World} : ∀ (L : List Res), St I (L ++ M) w → St I M w
  | [], h => h
  | _ :: L, h => St.dropAll L h.drop
theorem byte_lit (b : UInt8) (n : Nat) (hn : n < 256) : ((b.toNat : Int) == (n : Int)) = (b == UInt8.ofNat n) := by
  rw [Bool.eq_iff_iff]
  simp only [beq_iff_eq]
  constructor
  · intro h
    have : b.toNat = n := by omega
    rw [← this, UInt8.ofNat_toNat]
  · intro h
    rw [h, UInt8.toNat_ofNat', Nat.mod_eq_of_lt (by simpa using hn)]
theorem half_err {I : Img} {M : List Res} {w : World} {TS TA TP q r : Nat} {x : Ss} {vA vP : Value} {pv : List (Pa × Value)} {a : Res} (h : St I (half TS TA TP q r x vA vP pv [a] M) w) : St I (bk r TS zero5 :: M) w := by
  have h1 : St I (bk r TS zero5 :: (pv.map (arow TA) ++ M)) w := h.drop.drop.drop.swap1.drop
  have h2 : St I (pv.map (arow TA) ++ (bk r TS zero5 :: M)) w := h1.perm (List.perm_middle (l₁ := pv.map (arow TA)) (a := bk r TS zero5) (l₂ := M)).symm
  exact St.dropAll _ h2
theorem St.dn1 {I : Img} {M : List Res} {w : World} {a b c : Res} (h : St I (a :: b :: c :: M) w) : St I (a :: c :: b :: M) w := (h.perm ((List.Perm.swap c b M).cons a))
theorem St.rowCellSet {I : Img} {M : List Res} {w : World} {e s n c g : Nat} {xs : List Value} (h : St I (row e s (.slice (some ⟨g, 0, none⟩) n c) n xs :: M) w) (k : Nat) (v : Value) (h0 : 0 < xs.length) :
    St I (row e s (.slice (some ⟨g, 0, none⟩) n c) n (xs.set k v) :: M) (w.setCell ⟨g, k, none⟩ v) := by
  obtain ⟨g', cur, e1, _, hlc, hcm, hcs, hct, hs⟩ := h.rowBk h0
  injection e1 with e1
  injection e1 with e1
  subst e1
  exact (hs.set k v).bkRow hlc hcm (by rw [Array.size_setIfInBounds]; exact hcs) (by rw [Array.toList_setIfInBounds, List.take_set, hct])
theorem flat_last {α : Type} {f : α → List Value} {s : Nat} (hs : ∀ x, (f x).length = s) (ini : List α) (z y : α) (j : Nat) (v : Value) (_hj : j < s) (h : f y = (f z).set j v) : (flat f (ini ++ [z])).set (ini.length * s + j) v = flat f (ini ++ [y]) := by
  rw [flat_append, flat_append]
  have hl := flat_len hs ini
  rw [List.set_append_right _ _ (by omega), hl, Nat.add_sub_cancel_left]
  congr 1
  simp only [flat, List.append_nil]
  exact h.symm
theorem setConn_of {x : Ss} {ini : List (Pa × Value)} {z : Pa × Value} (h : partsOf (ini ++ [z]) = x.parts) (v : ByteArray) : setConn x v = { x with parts := partsOf (ini ++ [({ z.1 with conn := v }, z.2)]) } := by
  unfold setConn
  rw [← h]
  unfold partsOf
  simp
structure Half (q TS TA TP r : Nat) (ls : List (List UInt8)) (A : Option Addr) (c : Nat) (M : List Res) (I : Img) (i : Nat) (x : Ss) (cn : Bool) (vA vP : Value) (pv : List (Pa × Value)) (pl : Value) (w : World) : Prop where
  run : runS ls 0 false noSs = runS (ls.drop i) i cn x
  small : Small x pv
  early : i < 4 → x.attrs = [] ∧ pv = []
  place : 4 ≤ i → placeAt q vP pv pl
  some : cn = true → pv ≠ []
  st : St I (half TS TA TP q r x vA vP pv [row 9 1 (.slice A ls.length c) ls.length (strs ls)] M) w
def lineB : List UInt8 → Bool
  | _ :: b :: _ => b == 61
  | _ => false
theorem lineB_form {l : List UInt8} (h : lineB l = true) : ∃ a v, l = a :: 61 :: v := by
  rcases l with _ | ⟨a, _ | ⟨b, v⟩⟩
  · cases h
  · cases h
  · have : b = 61 := by simpa [lineB] using h
    exact ⟨a, v, by rw [this]⟩
theorem step_bad {i : Nat} {cn : Bool} {x : Ss} {l : List UInt8} (h : lineB l = false) : stepS i cn x l = .error 2 := by
  rcases l with _ | ⟨a, _ | ⟨b, v⟩⟩
  · rfl
  · rfl
  · unfold stepS
    split
    · rename_i e
      injection e with _ e
      injection e with e _
      subst e
      cases h
    · rfl
theorem res9 (w : World) (q : Nat) (a b c : ByteArray) (d e : Value) (n f : Int) (tmps : Array Value) (ht : tmps[2]? = some (.pointer (some ⟨q, 0, none⟩))) (h3 : tmps[3]? = some (.int .i64 n)) (h4 : tmps[4]? = some (.int .i64 f)) (h : Blk w q 26 #[.string a, .string b, .string c, d, e]) :
    (results Try.f9 tmps).run Try.prog w = .ok (.tuple #[.agg #[.string a, .string b, .string c, d, e], .int .i64 n, .int .i64 f]) w := by
  have c0 := h.cell 0
  have c1 := h.cell 1
  have c2 := h.cell 2
  have c3 := h.cell 3
  have c4 := h.cell 4
  simp only [List.getElem?_toArray, List.getElem?_cons_zero, List.getElem?_cons_succ] at c0 c1 c2 c3 c4
  simp [results, Try.results9, go_sem, ht, h3, h4, c0, c1, c2, c3, c4]
theorem linesF_len : ∀ (f : Nat) (s : List UInt8), (linesF f s).1.length ≤ s.length
  | 0, _ => Nat.zero_le _
  | f + 1, s => by
    rw [linesF]
    split
    · rename_i hc
      have h1 := linesF_len f (Lib.cut s crlf).2.1
      have h2 : (Lib.cut s crlf).2.1.length + 2 ≤ s.length := by
        rcases Lib.index_spec s crlf with ⟨e, _⟩ | ⟨i, e, _, ho, hno⟩
        · unfold Lib.cut at hc; rw [e, if_neg (by omega)] at hc; cases hc
        · obtain ⟨e2, h3⟩ := cut_hit hno ho
          rw [e2, List.length_drop]; omega
      rw [List.length_cons]
      omega
    · exact Nat.zero_le _
theorem linesF_size : ∀ (f : Nat) (s : List UInt8), ∀ x ∈ (linesF f s).1, x.length ≤ s.length
  | 0, _ => fun x hx => by cases hx
  | f + 1, s => by
    rw [linesF]
    split
    · rename_i hc
      have h1 := linesF_size f (Lib.cut s crlf).2.1
      have h2 : (Lib.cut s crlf).2.1.length ≤ s.length ∧ (Lib.cut s crlf).1.length ≤ s.length := by
        rcases Lib.index_spec s crlf with ⟨e, _⟩ | ⟨i, e, _, ho, hno⟩
        · unfold Lib.cut at hc; rw [e, if_neg (by omega)] at hc; cases hc
        · obtain ⟨e2, h3⟩ := cut_hit hno ho
          rw [e2, List.length_drop, List.length_take]; omega
      intro x hx
      rcases List.mem_cons.1 hx with rfl | hx
      · exact h2.2
      · exact Nat.le_trans (h1 x hx) h2.1
    · intro x hx; cases hx
theorem linesS_len (s : List UInt8) : (linesS s).1.length ≤ s.length := linesF_len _ _
theorem linesS_size (s : List UInt8) : ∀ x ∈ (linesS s).1, x.length ≤ s.length := linesF_size _ _
theorem parErr (TA TP : Nat) (M : List Res) (n e : Int) : parQ TA TP M (noSs, n, e) (.tuple #[.agg zero5, .int .i64 n, .int .i64 e]) (row TP 3 (.slice none 0 0) 0 [] :: row TA 2 (.slice none 0 0) 0 [] :: M) := ⟨_, _, [], rfl, rfl, rfl⟩
theorem runS_next {ls : List (List UInt8)} {i : Nat} (hi : i < ls.length) (c : Bool) (x : Ss) : runS (ls.drop i) i c x = match stepS i c x ls[i] with | .error e => .error ((i : Int) + 1, e) | .ok (y, d) => runS (ls.drop (i + 1)) (i + 1) d y := by
  rw [List.drop_eq_getElem_cons hi]
  rfl
theorem ss_last {x : Ss} {ini : List (Pa × Value)} {z : Pa × Value} (h : partsOf (ini ++ [z]) = x.parts) : x.parts.getLast? = some z.1 ∧ x.parts.dropLast = partsOf ini := by
  rw [← h]
  unfold partsOf
  simp
/-- where the next attribute goes: a cell and the row behind it -/
theorem place_ways {TS TA TP q r : Nat} {x : Ss} {vA vP : Value} {pv : List (Pa × Value)} {L M : List Res} {pl : Value} (hsm : Small x pv) (hpl : placeAt q vP pv pl) :
    ∃ (P : Value → Res) (va : Value) (l : List At) (N : List Res) (g o : Nat), pl = .pointer (some ⟨g, o, none⟩) ∧ placeLen x = l.length ∧ l.length ≤ 64 ∧
      (half TS TA TP q r x vA vP pv L M).Perm (P va :: row TA 2 va l.length (flat atC l) :: N) ∧
      (∀ v w, (P v).ok w → w.cell? ⟨g, o, none⟩ = some v ∧ w.frozen? ⟨g, o, none⟩ = false ∧ g < w.heap.size) ∧
      (∀ I M w v v', St I (P v :: M) w → St I (P v' :: M) (w.setCell ⟨g, o, none⟩ v')) ∧
      ∀ a v', l.length < 64 → ∃ vA' pv', Small (addAttr x a) pv' ∧ placeAt q vP pv' pl ∧ (pv = [] → pv' = []) ∧ (P v' :: row TA 2 v' (l.length + 1) (flat atC (l ++ [a])) :: N).Perm (half TS TA TP q r (addAttr x a) vA' vP pv' L M) := by
  rcases hpl with ⟨rfl, rfl⟩ | ⟨g, n, c, hne, rfl, rfl⟩
  · have hx : x.parts = [] := hsm.parts.symm
    have ha : ∀ a, addAttr x a = { x with attrs := x.attrs ++ [a] } := fun a => by unfold addAttr; rw [hx]; rfl
    refine ⟨fun v => bk q TS (head5 x v vP), vA, x.attrs, row TP 3 vP 0 [] :: bk r TS zero5 :: (L ++ ([] ++ M)), q, 3, rfl, by unfold placeLen; rw [hx]; rfl, hsm.own, ?_, fun v w h => ?_, fun I M w v v' h => h.set 3 v', fun a v' hl => ⟨v', [], ?_, .inl ⟨rfl, rfl⟩, fun _ => rfl, ?_⟩⟩
    · exact ((List.Perm.swap _ _ _).trans ((List.Perm.swap _ _ _).cons _)).trans (List.Perm.swap _ _ _)
    · exact ⟨Blk.cell h 3, Blk.frozen h 3, Blk.lt h⟩
    · rw [ha]
      exact ⟨hx.symm, Nat.zero_le _, by simp; omega, fun p hp => by cases hp⟩
    · rw [ha]
      unfold half
      simp only [List.length_append, List.length_singleton]
      exact ((List.Perm.swap _ _ _).trans ((List.Perm.swap _ _ _).cons _)).trans (List.Perm.swap _ _ _)
  · obtain ⟨ini, z, hpe⟩ : ∃ ini z, pv = ini ++ [z] := ⟨pv.dropLast, pv.getLast hne, (List.dropLast_concat_getLast hne).symm⟩
    subst hpe
    obtain ⟨e1, e2⟩ := ss_last hsm.parts
    have ha : ∀ a, addAttr x a = { x with parts := partsOf (ini ++ [({ z.1 with attrs := z.1.attrs ++ [a] }, z.2)]) } := fun a => by unfold addAttr; rw [e1]; simp only [e2]; unfold partsOf; simp
    have hz64 := hsm.each z (by simp)
    have hk : (ini ++ [z]).length - 1 = ini.length := by simp
    have hfl : ∀ v, 0 < (flat paC (ini ++ [(z.1, v)])).length := fun v => by rw [flat_len (f := paC) (s := 3) (fun _ => rfl)]; simp
    rw [hk]
    refine ⟨fun v => row TP 3 (.slice (some ⟨g, 0, none⟩) n c) (ini ++ [z]).length (flat paC (ini ++ [(z.1, v)])), z.2, z.1.attrs, row TA 2 vA x.attrs.length (flat atC x.attrs) :: bk q TS (head5 x vA (.slice (some ⟨g, 0, none⟩) n c)) :: bk r TS zero5 :: (L ++ (ini.map (arow TA) ++ M)), g, ini.length * 3 + 2, rfl, by unfold placeLen; rw [e1], hz64, ?_, fun v w h => ?_, fun I M w v v' h => ?_, fun a v' hl => ⟨vA, ini ++ [({ z.1 with attrs := z.1.attrs ++ [a] }, v')], ?_, .inr ⟨g, n, c, by simp, rfl, by simp⟩, fun h => by simp at h, ?_⟩⟩
    · refine List.Perm.cons _ ?_
      have hp : (ini ++ [z]).map (arow TA) ++ M = ini.map (arow TA) ++ arow TA z :: M := by simp
      rw [hp]
      have h2 : (L ++ (ini.map (arow TA) ++ arow TA z :: M)).Perm (arow TA z :: (L ++ (ini.map (arow TA) ++ M))) := by
        rw [← List.append_assoc, ← List.append_assoc]
        exact List.perm_middle
      have h3 := ((h2.cons (bk r TS zero5)).cons (bk q TS (head5 x vA (.slice (some ⟨g, 0, none⟩) n c)))).cons (row TA 2 vA x.attrs.length (flat atC x.attrs))
      exact h3.trans (List.perm_middle (l₁ := [row TA 2 vA x.attrs.length (flat atC x.attrs), bk q TS (head5 x vA (.slice (some ⟨g, 0, none⟩) n c)), bk r TS zero5]))
    · have h : w.ownsRow 0 TP 3 (.slice (some ⟨g, 0, none⟩) n c) (ini ++ [z]).length (flat paC (ini ++ [(z.1, v)])) := h
      have hl : (ini ++ [z]).length = (ini ++ [(z.1, v)]).length := by simp
      have h2 := h
      rw [hl] at h2
      have hc := own_at (f := paC) (fun _ => rfl) h2 ini.length (by simp) 2 (by decide)
      simp only [List.getElem_append_right (Nat.le_refl _), Nat.sub_self, List.getElem_cons_zero, paC, List.getElem?_cons_succ, List.getElem?_cons_zero] at hc
      obtain ⟨_, hA, hg, _⟩ := own_form2 h (hfl v)
      injection hA with hA
      injection hA with hA
      exact ⟨hc, own_frozen h (hfl v) _, hA ▸ hg⟩
    · obtain rfl := (own_cap (show World.ownsRow _ 0 TP 3 _ _ _ from h.head)).1
      have hset := St.rowCellSet h (ini.length * 3 + 2) v' (hfl v)
      rw [flat_last (f := paC) (s := 3) (fun _ => rfl) ini (z.1, v) (z.1, v') 2 v' (by decide) rfl] at hset
      exact hset
    · rw [ha]
      refine ⟨by unfold partsOf; simp, by simpa using hsm.few, hsm.own, fun y hy => ?_⟩
      rcases List.mem_append.1 hy with h | h
      · exact hsm.each y (List.mem_append.2 (.inl h))
      · obtain rfl := List.mem_singleton.1 h
        simp
        omega
    · rw [ha]
      have hp : (ini ++ [({ z.1 with attrs := z.1.attrs ++ [a] }, v')]).map (arow TA) ++ M = ini.map (arow TA) ++ row TA 2 v' (z.1.attrs.length + 1) (flat atC (z.1.attrs ++ [a])) :: M := by
        rw [List.map_append, List.append_assoc]
        simp only [List.map_cons, List.map_nil, List.cons_append, List.nil_append, arow, List.length_append, List.length_singleton]
      have hf : flat paC (ini ++ [({ z.1 with attrs := z.1.attrs ++ [a] }, v')]) = flat paC (ini ++ [(z.1, v')]) := by rw [flat_append, flat_append]; rfl
      have hl : (ini ++ [(({ z.1 with attrs := z.1.attrs ++ [a] }, v') : Pa × Value)]).length = (ini ++ [z]).length := by simp
      unfold half
      rw [hp, hf, hl]
      refine List.Perm.cons _ ?_
      have h2 : (row TA 2 v' (z.1.attrs.length + 1) (flat atC (z.1.attrs ++ [a])) :: (L ++ (ini.map (arow TA) ++ M))).Perm (L ++ (ini.map (arow TA) ++ row TA 2 v' (z.1.attrs.length + 1) (flat atC (z.1.attrs ++ [a])) :: M)) := by
        rw [← List.append_assoc, ← List.append_assoc]
        exact List.perm_middle.symm
      have h3 := ((h2.cons (bk r TS zero5)).cons (bk q TS (head5 x vA (.slice (some ⟨g, 0, none⟩) n c)))).cons (row TA 2 vA x.attrs.length (flat atC x.attrs))
      exact (List.perm_middle (l₁ := [row TA 2 vA x.attrs.length (flat atC x.attrs), bk q TS (head5 x vA (.slice (some ⟨g, 0, none⟩) n c)), bk r TS zero5])).symm.trans h3
end Go.Proofs.Ytpbbincgddmbiaa
