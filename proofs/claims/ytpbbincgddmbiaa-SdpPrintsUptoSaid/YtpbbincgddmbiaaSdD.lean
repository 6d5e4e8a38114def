/- descriptions: what a text says; how they lie in memory. -/
import Derived.Test.YtpbbincgddmbiaaSdC
namespace Go.Proofs.Ytpbbincgddmbiaa
open Go.RowKit
set_option linter.unusedSimpArgs false

structure Pa where
  line : ByteArray
  conn : ByteArray
  attrs : List At
structure Ss where
  origin : ByteArray
  name : ByteArray
  time : ByteArray
  attrs : List At
  parts : List Pa
def noSs : Ss := ⟨⟨#[]⟩, ⟨#[]⟩, ⟨#[]⟩, [], []⟩
/-- how many attributes stand where the next one goes -/
def placeLen (x : Ss) : Nat := match x.parts.getLast? with | some p => p.attrs.length | none => x.attrs.length
def addAttr (x : Ss) (a : At) : Ss := match x.parts.getLast? with
  | some p => { x with parts := x.parts.dropLast ++ [{ p with attrs := p.attrs ++ [a] }] }
  | none => { x with attrs := x.attrs ++ [a] }
def setConn (x : Ss) (v : ByteArray) : Ss := match x.parts.getLast? with
  | some p => { x with parts := x.parts.dropLast ++ [{ p with conn := v }] }
  | none => x
/-- a line, behind n others -/
def stepS (n : Nat) (conn : Bool) (x : Ss) : List UInt8 → Except Int (Ss × Bool)
  | k :: 61 :: v =>
    if n = 0 then (if k = 118 ∧ v = [48] then .ok (x, conn) else .error 2)
    else if n = 1 then (if k = 111 ∧ valB (bsA v) 200 = true then .ok ({ x with origin := bsA v }, conn) else .error 2)
    else if n = 2 then (if k = 115 ∧ valB (bsA v) 200 = true then .ok ({ x with name := bsA v }, conn) else .error 2)
    else if n = 3 then (if k = 116 ∧ valB (bsA v) 200 = true then .ok ({ x with time := bsA v }, conn) else .error 2)
    else if k = 97 then (if (attrS v).2 = false then .error 2 else if placeLen x = 64 then .error 3 else .ok (addAttr x (attrS v).1, false))
    else if k = 109 ∧ valB (bsA v) 200 = true then (if x.parts.length = 8 then .error 3 else .ok ({ x with parts := x.parts ++ [⟨bsA v, ⟨#[]⟩, []⟩] }, true))
    else if k = 99 ∧ conn = true ∧ valB (bsA v) 200 = true then .ok (setConn x (bsA v), false)
    else .error 2
  | _ => .error 2
def runS : List (List UInt8) → Nat → Bool → Ss → Except (Int × Int) Ss
  | [], _, _, x => .ok x
  | l :: r, n, conn, x => match stepS n conn x l with
    | .error e => .error ((n : Int) + 1, e)
    | .ok (y, c) => runS r (n + 1) c y
def parseS (s : List UInt8) : Ss × Int × Int :=
  if 8192 < s.length then (noSs, 0, 3)
  else match runS (linesS s).1 0 false noSs with
    | .error (n, e) => (noSs, n, e)
    | .ok x => if (linesS s).2 = true ∨ (linesS s).1.length < 4 then (noSs, ((linesS s).1.length : Int) + 1, 2) else (x, 0, 0)
abbrev atC (a : At) : List Value := [.string a.name, .string a.value]
abbrev paC (x : Pa × Value) : List Value := [.string x.1.line, .string x.1.conn, x.2]
def flat {α : Type} (f : α → List Value) : List α → List Value
  | [] => []
  | x :: r => f x ++ flat f r
theorem flat_append {α : Type} (f : α → List Value) (a b : List α) : flat f (a ++ b) = flat f a ++ flat f b := by
  induction a with
  | nil => rfl
  | cons x r ih => simp only [List.cons_append, flat, ih, List.append_assoc]
theorem flat_len {α : Type} {f : α → List Value} {s : Nat} (hs : ∀ x, (f x).length = s) (l : List α) : (flat f l).length = l.length * s := by
  induction l with
  | nil => simp [flat]
  | cons x r ih => simp only [flat, List.length_append, hs, ih, List.length_cons, Nat.add_mul, Nat.one_mul]; omega
theorem flat_at {α : Type} {f : α → List Value} {s : Nat} (hs : ∀ x, (f x).length = s) (l : List α) : ∀ (i j : Nat) (h : i < l.length) (_ : j < s), (flat f l)[i * s + j]? = (f l[i])[j]? := by
  induction l with
  | nil => intro i j h; cases h
  | cons x r ih =>
    intro i j h hj
    match i, h with
    | 0, _ =>
      rw [Nat.zero_mul, Nat.zero_add, flat, List.getElem?_append_left (by rw [hs]; exact hj)]
      rfl
    | i + 1, h =>
      have e1 : (i + 1) * s + j = s + (i * s + j) := by rw [Nat.add_mul, Nat.one_mul]; omega
      rw [e1, flat, List.getElem?_append_right (by rw [hs]; omega), hs, Nat.add_sub_cancel_left]
      exact ih i j (by simpa using h) hj
/-- the rows of parts' attributes -/
abbrev arow (TA : Nat) (x : Pa × Value) : Res := row TA 2 x.2 x.1.attrs.length (flat atC x.1.attrs)
/-- a description's rows -/
abbrev sesV (TA TP : Nat) (x : Ss) (vA vP : Value) (pv : List (Pa × Value)) (M : List Res) : List Res :=
  row TP 3 vP pv.length (flat paC pv) :: row TA 2 vA x.attrs.length (flat atC x.attrs) :: (pv.map (arow TA) ++ M)
def partsOf (pv : List (Pa × Value)) : List Pa := pv.map (·.1)
theorem arow_last {TA : Nat} {I : Img} {M N : List Res} {w : World} (ini : List (Pa × Value)) (x : Pa × Value) : St I (N ++ ((ini ++ [x]).map (arow TA) ++ M)) w ↔ St I (arow TA x :: (N ++ (ini.map (arow TA) ++ M))) w := by
  have hp : (N ++ ((ini ++ [x]).map (arow TA) ++ M)).Perm (arow TA x :: (N ++ (ini.map (arow TA) ++ M))) := by
    rw [List.map_append, List.map_cons, List.map_nil, List.append_assoc, List.singleton_append, ← List.append_assoc]
    refine (List.perm_middle (l₁ := N ++ ini.map (arow TA)) (a := arow TA x) (l₂ := M)).trans ?_
    rw [List.append_assoc]
  exact ⟨fun h => h.perm hp, fun h => h.perm hp.symm⟩
theorem own_form2 {w : World} {e s n n' c : Nat} {A : Option Addr} {xs : List Value} (ho : w.ownsRow 0 e s (.slice A n' c) n xs) (h0 : 0 < xs.length) : ∃ g, A = some ⟨g, 0, none⟩ ∧ g < w.heap.size ∧ n ≤ c := by
  have hcap := (own_cap ho).2
  rcases ho.2 with ⟨_, hn⟩ | ⟨g, cap, cur, hv, _, hg, _⟩
  · have := ho.1; rw [hn] at this; omega
  · injection hv with hA
    exact ⟨g, hA, (Array.getElem?_eq_some_iff.1 hg).1, hcap⟩
theorem own_at1 {w : World} {e s n n' c g : Nat} {xs : List Value} (ho : w.ownsRow 0 e s (.slice (some ⟨g, 0, none⟩) n' c) n xs) (k : Nat) (hk : k < xs.length) : w.cell? ⟨g, k, none⟩ = some xs[k] := by
  have := ho.cells (g := g) rfl k xs[k] (by simp [hk])
  rw [add_at, Nat.zero_add] at this
  exact this
theorem own_at {α : Type} {w : World} {f : α → List Value} {e s n' c g : Nat} {l : List α} (hs : ∀ x, (f x).length = s) (ho : w.ownsRow 0 e s (.slice (some ⟨g, 0, none⟩) n' c) l.length (flat f l)) (i : Nat) (hi : i < l.length) (j : Nat) (hj : j < s) : w.cell? ⟨g, i * s + j, none⟩ = (f l[i])[j]? := by
  have hlt : i * s + j < (flat f l).length := by
    rw [flat_len hs]
    have := Nat.mul_le_mul_right s (show i + 1 ≤ l.length by omega)
    rw [Nat.add_mul, Nat.one_mul] at this
    omega
  rw [own_at1 ho _ hlt, ← flat_at hs l i j hi hj, List.getElem?_eq_getElem hlt]
theorem own_frozen {w : World} {e s n n' c g : Nat} {xs : List Value} (ho : w.ownsRow 0 e s (.slice (some ⟨g, 0, none⟩) n' c) n xs) (h0 : 0 < xs.length) (k : Nat) : w.frozen? ⟨g, k, none⟩ = false := by
  rcases ho.2 with ⟨_, hn⟩ | ⟨g', cap, cur, hv, _, hg, _⟩
  · have := ho.1; rw [hn] at this; omega
  · injection hv with hA
    injection hA with hA
    injection hA with hA
    subst hA
    exact frozen_of_row w g k cur e hg
end Go.Proofs.Ytpbbincgddmbiaa
