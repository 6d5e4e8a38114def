/- arguments, opened: a description of the document's. -/
import Derived.Test.YtpbbincgddmbiaaSdT
import Derived.Test.YtpbbincgddmbiaaOpen
namespace Go.Proofs.Ytpbbincgddmbiaa
open Go.ChangeShapes Go.WideShapes Go.ChangeAt Go.RowKit Go.Joins Go.Deep

theorem flatOf {α : Type} {I : Img} {s : Nat} {El : Img → List Value → α → Prop} {f : α → List Value} {A : Option Addr} {ys : List α} (h : RowsOf I s El A ys) (hf : ∀ cs y, El I cs y → cs = f y) (hs : ∀ x, (f x).length = s) (h0 : 0 < s) : Cells I A (flat f ys) := by
  intro hl
  have hfl := flat_len hs ys
  have hy : 0 < ys.length := by
    rcases Nat.eq_zero_or_pos ys.length with e | e
    · rw [hfl, e] at hl; omega
    · exact e
  obtain ⟨g, o, e, hc⟩ := h hy
  refine ⟨g, o, e, fun j hj => ?_⟩
  have hd : j / s * s + j % s = j := by have := Nat.div_add_mod j s; rw [Nat.mul_comm] at this; exact this
  have hi : j / s < ys.length := by rw [hfl] at hj; exact Nat.div_lt_of_lt_mul (by rw [Nat.mul_comm]; exact hj)
  have hr : j % s < s := Nat.mod_lt _ h0
  obtain ⟨cs, hel, hcl, hat⟩ := hc (j / s) hi
  have hcf := hf _ _ hel
  subst hcf
  have h1 := hat (j % s) (by rw [hs]; exact hr)
  have h2 := flat_at hs ys (j / s) (j % s) hi hr
  rw [Nat.add_assoc, hd] at h1
  rw [hd, List.getElem?_eq_getElem hj, List.getElem?_eq_getElem (by rw [hs]; exact hr)] at h2
  rw [h1]
  exact h2.symm
def ElA (_ : Img) (cs : List Value) (a : At) : Prop := cs = atC a ∧ a.name.size ≤ maxLen ∧ a.value.size ≤ maxLen
theorem elA_of {I : Img} {A : Option Addr} {l : List At} (h : RowsOf I 2 ElA A l) : Cells I A (flat atC l) ∧ Shorts l := by
  refine ⟨flatOf h (fun _ _ h => h.1) (fun _ => rfl) (by decide), fun a ha => ?_⟩
  obtain ⟨i, hi, rfl⟩ := List.getElem_of_mem ha
  obtain ⟨g, o, e, hc⟩ := h (by omega)
  obtain ⟨cs, hel, _⟩ := hc i hi
  exact hel.2
def ElP (I : Img) (cs : List Value) (p : Pa × Value) : Prop := cs = paC p ∧ Attrs I p.2 p.1.attrs ∧ p.1.attrs.length * 32 ≤ 140737488351232 ∧ SizedPa p.1
theorem elP_of {I : Img} {A : Option Addr} {l : List (Pa × Value)} (h : RowsOf I 3 ElP A l) : Cells I A (flat paC l) ∧ ∀ p ∈ l, Attrs I p.2 p.1.attrs ∧ p.1.attrs.length * 32 ≤ 140737488351232 ∧ SizedPa p.1 := by
  refine ⟨flatOf h (fun _ _ h => h.1) (fun _ => rfl) (by decide), fun a ha => ?_⟩
  obtain ⟨i, hi, rfl⟩ := List.getElem_of_mem ha
  obtain ⟨g, o, e, hc⟩ := h (by omega)
  obtain ⟨cs, hel, _⟩ := hc i hi
  exact hel.2
theorem cellsOf54 : Try.prog.cellsOf 54 = 2 := by kernel_rfl
theorem open_at0 {H : Type} {enc : TypeId × Value → H} {w : World} {base : Nat} {spare : Nat → Bool} {held : Bool} {fuel : Nat} {cs : List Value} {x : DataW H × List MemPlace} (h : DataW.trod enc Try.prog w base spare held fuel 54 cs = some x) (hF : Fits Try.prog 54 x.1) :
    ∃ (n : ByteArray) (v : ByteArray), cs = [.string n, .string v] ∧ n.size ≤ maxLen ∧ v.size ≤ maxLen := by
  obtain ⟨xs, n, _, rfl, hl, hlen, hf⟩ := DataW.trod_struct Try.underlying54 h
  rw [cellsOf54] at hl
  match cs, hl, xs, hlen with
  | [c0, c1], _, [y0, y1], _ =>
    have h0 : DataW.trod enc Try.prog w base spare held n 9 (([c0, c1].drop 0).take (Try.prog.cellsOf 9)) = some y0 := hf 0 _ rfl
    have h1 : DataW.trod enc Try.prog w base spare held n 9 (([c0, c1].drop 1).take (Try.prog.cellsOf 9)) = some y1 := hf 1 _ rfl
    rw [show Try.prog.cellsOf 9 = 1 from by kernel_rfl] at h0
    rw [show Try.prog.cellsOf 9 = 1 from by kernel_rfl] at h1
    have hfa := fits_agg Try.underlying54 hF
    obtain ⟨n, e0, _, k0⟩ := DataW.trod_string Try.underlying9 h0
    obtain ⟨v, e1, _, k1⟩ := DataW.trod_string Try.underlying9 h1
    simp only [List.drop_zero, List.drop_succ_cons, List.take_succ_cons, List.take_zero, List.cons.injEq, and_true] at e0 e1
    subst e0 e1
    exact ⟨n, v, rfl, k0, k1⟩
theorem cellsOf58 : Try.prog.cellsOf 58 = 3 := by kernel_rfl
theorem open_pa0 {H : Type} {enc : TypeId × Value → H} {w : World} {base : Nat} {held : Bool} {fuel : Nat} {cs : List Value} {x : DataW H × List MemPlace} (h : DataW.trod enc Try.prog w base (fun _ => true) held fuel 58 cs = some x) (hF : Fits Try.prog 58 x.1) :
    ∃ (line : ByteArray) (conn : ByteArray) (alA : Option Addr) (alc : Nat) (al : List At), cs = [.string line, .string conn, .slice alA al.length alc] ∧ line.size ≤ maxLen ∧ conn.size ≤ maxLen ∧ RowsOf (Img.of w) 2 ElA alA al ∧ al.length * 32 ≤ 140737488351232 := by
  obtain ⟨xs, n, _, rfl, hl, hlen, hf⟩ := DataW.trod_struct Try.underlying58 h
  rw [cellsOf58] at hl
  match cs, hl, xs, hlen with
  | [c0, c1, c2], _, [y0, y1, y2], _ =>
    have h0 : DataW.trod enc Try.prog w base (fun _ => true) held n 9 (([c0, c1, c2].drop 0).take (Try.prog.cellsOf 9)) = some y0 := hf 0 _ rfl
    have h1 : DataW.trod enc Try.prog w base (fun _ => true) held n 9 (([c0, c1, c2].drop 1).take (Try.prog.cellsOf 9)) = some y1 := hf 1 _ rfl
    have h2 : DataW.trod enc Try.prog w base (fun _ => true) held n 23 (([c0, c1, c2].drop 2).take (Try.prog.cellsOf 23)) = some y2 := hf 2 _ rfl
    rw [show Try.prog.cellsOf 9 = 1 from by kernel_rfl] at h0
    rw [show Try.prog.cellsOf 9 = 1 from by kernel_rfl] at h1
    rw [show Try.prog.cellsOf 23 = 1 from by kernel_rfl] at h2
    have hfa := fits_agg Try.underlying58 hF
    obtain ⟨line, e0, _, k0⟩ := DataW.trod_string Try.underlying9 h0
    obtain ⟨conn, e1, _, k1⟩ := DataW.trod_string Try.underlying9 h1
    obtain ⟨alA, alc, al, e2, hR2, hl2, _, _⟩ := open_rows (El := ElA) (size := 2) (by_ := 32) Try.underlying23 (by kernel_rfl) (by kernel_rfl) (by decide) (by decide) (fun f cs x h hF => by
      obtain ⟨n, v, rfl, hn, hv⟩ := open_at0 h hF
      exact ⟨⟨n, v⟩, rfl, hn, hv⟩) h2 (fits_cons (fits_cons (fits_cons hfa).2).2).1
    simp only [List.drop_zero, List.drop_succ_cons, List.take_succ_cons, List.take_zero, List.cons.injEq, and_true] at e0 e1 e2
    subst e0 e1 e2
    exact ⟨line, conn, alA, alc, al, rfl, k0, k1, hR2, hl2⟩
theorem cellsOf26 : Try.prog.cellsOf 26 = 5 := by kernel_rfl
theorem open_ses0 {H : Type} {enc : TypeId × Value → H} {w : World} {base : Nat} {held : Bool} {fuel : Nat} {cs : List Value} {x : DataW H × List MemPlace} (h : DataW.trod enc Try.prog w base (fun _ => true) held fuel 26 cs = some x) (hF : Fits Try.prog 26 x.1) :
    ∃ (origin : ByteArray) (name : ByteArray) (time : ByteArray) (alA : Option Addr) (alc : Nat) (al : List At) (psA : Option Addr) (psc : Nat) (ps : List (Pa × Value)), cs = [.string origin, .string name, .string time, .slice alA al.length alc, .slice psA ps.length psc] ∧ origin.size ≤ maxLen ∧ name.size ≤ maxLen ∧ time.size ≤ maxLen ∧ RowsOf (Img.of w) 2 ElA alA al ∧ al.length * 32 ≤ 140737488351232 ∧ RowsOf (Img.of w) 3 ElP psA ps ∧ ps.length * 56 ≤ 140737488351232 := by
  obtain ⟨xs, n, _, rfl, hl, hlen, hf⟩ := DataW.trod_struct Try.underlying26 h
  rw [cellsOf26] at hl
  match cs, hl, xs, hlen with
  | [c0, c1, c2, c3, c4], _, [y0, y1, y2, y3, y4], _ =>
    have h0 : DataW.trod enc Try.prog w base (fun _ => true) held n 9 (([c0, c1, c2, c3, c4].drop 0).take (Try.prog.cellsOf 9)) = some y0 := hf 0 _ rfl
    have h1 : DataW.trod enc Try.prog w base (fun _ => true) held n 9 (([c0, c1, c2, c3, c4].drop 1).take (Try.prog.cellsOf 9)) = some y1 := hf 1 _ rfl
    have h2 : DataW.trod enc Try.prog w base (fun _ => true) held n 9 (([c0, c1, c2, c3, c4].drop 2).take (Try.prog.cellsOf 9)) = some y2 := hf 2 _ rfl
    have h3 : DataW.trod enc Try.prog w base (fun _ => true) held n 23 (([c0, c1, c2, c3, c4].drop 3).take (Try.prog.cellsOf 23)) = some y3 := hf 3 _ rfl
    have h4 : DataW.trod enc Try.prog w base (fun _ => true) held n 24 (([c0, c1, c2, c3, c4].drop 4).take (Try.prog.cellsOf 24)) = some y4 := hf 4 _ rfl
    rw [show Try.prog.cellsOf 9 = 1 from by kernel_rfl] at h0
    rw [show Try.prog.cellsOf 9 = 1 from by kernel_rfl] at h1
    rw [show Try.prog.cellsOf 9 = 1 from by kernel_rfl] at h2
    rw [show Try.prog.cellsOf 23 = 1 from by kernel_rfl] at h3
    rw [show Try.prog.cellsOf 24 = 1 from by kernel_rfl] at h4
    have hfa := fits_agg Try.underlying26 hF
    obtain ⟨origin, e0, _, k0⟩ := DataW.trod_string Try.underlying9 h0
    obtain ⟨name, e1, _, k1⟩ := DataW.trod_string Try.underlying9 h1
    obtain ⟨time, e2, _, k2⟩ := DataW.trod_string Try.underlying9 h2
    obtain ⟨alA, alc, al, e3, hR3, hl3, _, _⟩ := open_rows (El := ElA) (size := 2) (by_ := 32) Try.underlying23 (by kernel_rfl) (by kernel_rfl) (by decide) (by decide) (fun f cs x h hF => by
      obtain ⟨n, v, rfl, hn, hv⟩ := open_at0 h hF
      exact ⟨⟨n, v⟩, rfl, hn, hv⟩) h3 (fits_cons (fits_cons (fits_cons (fits_cons hfa).2).2).2).1
    obtain ⟨psA, psc, ps, e4, hR4, hl4, _, _⟩ := open_rows (El := ElP) (size := 3) (by_ := 56) Try.underlying24 (by kernel_rfl) (by kernel_rfl) (by decide) (by decide) (fun f cs x h hF => by
      obtain ⟨line, conn, alA, alc, al, rfl, h1, h2, h3, h4⟩ := open_pa0 h hF
      exact ⟨(⟨line, conn, al⟩, .slice alA al.length alc), rfl, ⟨alA, alc, rfl, (elA_of h3).1⟩, h4, h1, h2, (elA_of h3).2, by show al.length ≤ _; omega⟩) h4 (fits_cons (fits_cons (fits_cons (fits_cons (fits_cons hfa).2).2).2).2).1
    simp only [List.drop_zero, List.drop_succ_cons, List.take_succ_cons, List.take_zero, List.cons.injEq, and_true] at e0 e1 e2 e3 e4
    subst e0 e1 e2 e3 e4
    exact ⟨origin, name, time, alA, alc, al, psA, psc, ps, rfl, k0, k1, k2, hR3, hl3, hR4, hl4⟩
theorem open_ses {H : Type} {enc : TypeId × Value → H} {w : World} {base : Nat} {held : Bool} {fuel : Nat} {cs : List Value} {x : DataW H × List MemPlace} (h : DataW.trod enc Try.prog w base (fun _ => true) held fuel 26 cs = some x) (hF : Fits Try.prog 26 x.1) :
    ∃ (y : Ss) (vA vP : Value) (pv : List (Pa × Value)), cs = (head5 y vA vP).toList ∧ Ses (Img.of w) vA vP pv y ∧ Sized y ∧ y.attrs.length * 32 ≤ 140737488351232 ∧ pv.length * 56 ≤ 140737488351232 ∧ ∀ p ∈ pv, p.1.attrs.length * 32 ≤ 140737488351232 := by
  obtain ⟨origin, name, time, alA, alc, al, psA, psc, ps, rfl, h1, h2, h3, hA, hAl, hP, hPl⟩ := open_ses0 h hF
  refine ⟨⟨origin, name, time, al, partsOf ps⟩, .slice alA al.length alc, .slice psA ps.length psc, ps, rfl, ⟨⟨alA, alc, rfl, (elA_of hA).1⟩, ⟨psA, psc, rfl, (elP_of hP).1⟩, fun p hp => ((elP_of hP).2 p hp).1, rfl⟩, ⟨h1, h2, h3, (elA_of hA).2, by show al.length ≤ _; omega, fun p hp => ?_, by show (partsOf ps).length ≤ _; simp only [partsOf, List.length_map]; omega⟩, hAl, hPl, fun p hp => ((elP_of hP).2 p hp).2.1⟩
  obtain ⟨q, hq, rfl⟩ := List.mem_map.1 hp
  exact ((elP_of hP).2 q hq).2.2
end Go.Proofs.Ytpbbincgddmbiaa
