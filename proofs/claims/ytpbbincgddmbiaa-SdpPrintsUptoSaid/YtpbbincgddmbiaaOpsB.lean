/- arguments, opened with their bulk: a description of the document's. -/
import Derived.Test.YtpbbincgddmbiaaOps
import Derived.Test.YtpbbincgddmbiaaUp
import Derived.Test.YtpbbincgddmbiaaSdW
namespace Go.Proofs.Ytpbbincgddmbiaa
open Go.ChangeShapes Go.WideShapes Go.ChangeAt Go.RowKit Go.Joins Go.Deep

def muA (a : At) : Nat := a.name.size + a.value.size + 1
def muP (p : Pa × Value) : Nat := p.1.line.size + p.1.conn.size + sumOf muA p.1.attrs + 1
theorem cellsOf54B : Try.prog.cellsOf 54 = 2 := by kernel_rfl
theorem open_at0B {H : Type} {enc : TypeId × Value → H} {w : World} {base : Nat} {spare : Nat → Bool} {held : Bool} {fuel : Nat} {cs : List Value} {x : DataW H × List MemPlace} (h : DataW.trod enc Try.prog w base spare held fuel 54 cs = some x) (hF : Fits Try.prog 54 x.1) :
    ∃ (n : ByteArray) (v : ByteArray), cs = [.string n, .string v] ∧ n.size ≤ maxLen ∧ v.size ≤ maxLen ∧ n.size + v.size + 1 ≤ Rows.uptoBulk x.1 := by
  obtain ⟨xs, n, _, rfl, hl, hlen, hf⟩ := DataW.trod_struct Try.underlying54 h
  rw [cellsOf54B] at hl
  match cs, hl, xs, hlen with
  | [c0, c1], _, [y0, y1], _ =>
    have h0 : DataW.trod enc Try.prog w base spare held n 9 (([c0, c1].drop 0).take (Try.prog.cellsOf 9)) = some y0 := hf 0 _ rfl
    have h1 : DataW.trod enc Try.prog w base spare held n 9 (([c0, c1].drop 1).take (Try.prog.cellsOf 9)) = some y1 := hf 1 _ rfl
    rw [show Try.prog.cellsOf 9 = 1 from by kernel_rfl] at h0
    rw [show Try.prog.cellsOf 9 = 1 from by kernel_rfl] at h1
    have hfa := fits_agg Try.underlying54 hF
    obtain ⟨n, e0, d0, k0⟩ := DataW.trod_string Try.underlying9 h0
    obtain ⟨v, e1, d1, k1⟩ := DataW.trod_string Try.underlying9 h1
    simp only [List.drop_zero, List.drop_succ_cons, List.take_succ_cons, List.take_zero, List.cons.injEq, and_true] at e0 e1
    subst e0 e1
    have z0 : n.data.toList.length = n.size := Array.length_toList ..
    have z1 : v.data.toList.length = v.size := Array.length_toList ..
    exact ⟨n, v, rfl, k0, k1, (by simp only [List.map_cons, List.map_nil, Rows.uptoBulk, Rows.uptoBulkAll, d0, d1]; omega)⟩
theorem cellsOf58B : Try.prog.cellsOf 58 = 3 := by kernel_rfl
theorem open_pa0B {H : Type} {enc : TypeId × Value → H} {w : World} {base : Nat} {held : Bool} {fuel : Nat} {cs : List Value} {x : DataW H × List MemPlace} (h : DataW.trod enc Try.prog w base (fun _ => true) held fuel 58 cs = some x) (hF : Fits Try.prog 58 x.1) :
    ∃ (line : ByteArray) (conn : ByteArray) (alA : Option Addr) (alc : Nat) (al : List At), cs = [.string line, .string conn, .slice alA al.length alc] ∧ line.size ≤ maxLen ∧ conn.size ≤ maxLen ∧ RowsOf (Img.of w) 2 ElA alA al ∧ al.length * 32 ≤ 140737488351232 ∧ line.size + conn.size + sumOf muA al + 1 ≤ Rows.uptoBulk x.1 := by
  obtain ⟨xs, n, _, rfl, hl, hlen, hf⟩ := DataW.trod_struct Try.underlying58 h
  rw [cellsOf58B] at hl
  match cs, hl, xs, hlen with
  | [c0, c1, c2], _, [y0, y1, y2], _ =>
    have h0 : DataW.trod enc Try.prog w base (fun _ => true) held n 9 (([c0, c1, c2].drop 0).take (Try.prog.cellsOf 9)) = some y0 := hf 0 _ rfl
    have h1 : DataW.trod enc Try.prog w base (fun _ => true) held n 9 (([c0, c1, c2].drop 1).take (Try.prog.cellsOf 9)) = some y1 := hf 1 _ rfl
    have h2 : DataW.trod enc Try.prog w base (fun _ => true) held n 23 (([c0, c1, c2].drop 2).take (Try.prog.cellsOf 23)) = some y2 := hf 2 _ rfl
    rw [show Try.prog.cellsOf 9 = 1 from by kernel_rfl] at h0
    rw [show Try.prog.cellsOf 9 = 1 from by kernel_rfl] at h1
    rw [show Try.prog.cellsOf 23 = 1 from by kernel_rfl] at h2
    have hfa := fits_agg Try.underlying58 hF
    obtain ⟨line, e0, d0, k0⟩ := DataW.trod_string Try.underlying9 h0
    obtain ⟨conn, e1, d1, k1⟩ := DataW.trod_string Try.underlying9 h1
    obtain ⟨alA, alc, al, e2, hR2, hl2, _, _, hB2⟩ := open_rowsB (El := ElA) (mu := muA) (size := 2) (by_ := 32) Try.underlying23 (by kernel_rfl) (by kernel_rfl) (by decide) (by decide) (fun f cs x h hF => by
      obtain ⟨n, v, rfl, hn, hv, hB⟩ := open_at0B h hF
      exact ⟨⟨n, v⟩, ⟨rfl, hn, hv⟩, hB⟩) h2 (fits_cons (fits_cons (fits_cons hfa).2).2).1
    simp only [List.drop_zero, List.drop_succ_cons, List.take_succ_cons, List.take_zero, List.cons.injEq, and_true] at e0 e1 e2
    subst e0 e1 e2
    have z0 : line.data.toList.length = line.size := Array.length_toList ..
    have z1 : conn.data.toList.length = conn.size := Array.length_toList ..
    exact ⟨line, conn, alA, alc, al, rfl, k0, k1, hR2, hl2, (by simp only [List.map_cons, List.map_nil, Rows.uptoBulk, Rows.uptoBulkAll, d0, d1]; omega)⟩
theorem cellsOf26B : Try.prog.cellsOf 26 = 5 := by kernel_rfl
theorem open_ses0B {H : Type} {enc : TypeId × Value → H} {w : World} {base : Nat} {held : Bool} {fuel : Nat} {cs : List Value} {x : DataW H × List MemPlace} (h : DataW.trod enc Try.prog w base (fun _ => true) held fuel 26 cs = some x) (hF : Fits Try.prog 26 x.1) :
    ∃ (origin : ByteArray) (name : ByteArray) (time : ByteArray) (alA : Option Addr) (alc : Nat) (al : List At) (psA : Option Addr) (psc : Nat) (ps : List (Pa × Value)), cs = [.string origin, .string name, .string time, .slice alA al.length alc, .slice psA ps.length psc] ∧ origin.size ≤ maxLen ∧ name.size ≤ maxLen ∧ time.size ≤ maxLen ∧ RowsOf (Img.of w) 2 ElA alA al ∧ al.length * 32 ≤ 140737488351232 ∧ RowsOf (Img.of w) 3 ElP psA ps ∧ ps.length * 56 ≤ 140737488351232 ∧ origin.size + name.size + time.size + sumOf muA al + sumOf muP ps ≤ Rows.uptoBulk x.1 := by
  obtain ⟨xs, n, _, rfl, hl, hlen, hf⟩ := DataW.trod_struct Try.underlying26 h
  rw [cellsOf26B] at hl
  match cs, hl, xs, hlen with
  | [c0, c1, c2, c3, c4], _, [y0, y1, y2, y3, y4], _ =>
    have h0 : DataW.trod enc Try.prog w base (fun _ => true) held n 9 (([c0, c1, c2, c3, c4].drop 0).take (Try.prog.cellsOf 9)) = some y0 := hf 0 _ rfl
    have h1 : DataW.trod enc Try.prog w base (fun _ => true) held n 9 (([c0, c1, c2, c3, c4].drop 1).take (Try.prog.cellsOf 9)) = some y1 := hf 1 _ rfl
    have h2 : DataW.trod enc Try.prog w base (fun _ => true) held n 9 (([c0, c1, c2, c3, c4].drop 2).take (Try.prog.cellsOf 9)) = some y2 := hf 2 _ rfl
    have h3 : DataW.trod enc Try.prog w base (fun _ => true) held n 23 (([c0, c1, c2, c3, c4].drop 3).take (Try.prog.cellsOf 23)) = some y3 := hf 3 _ rfl
    have h4 : DataW.trod enc Try.prog w base (fun _ => true) held n 24 (([c0, c1, c2, c3, c4].drop 4).take (Try.prog.cellsOf 24)) = some y4 := hf 4 _ rfl
    rw [show Try.prog.cellsOf 9 = 1 from by kernel_rfl] at h0
    rw [show Try.prog.cellsOf 9 = 1 from by kernel_rfl] at h1
    rw [show Try.prog.cellsOf 9 = 1 from by kernel_rfl] at h2
    rw [show Try.prog.cellsOf 23 = 1 from by kernel_rfl] at h3
    rw [show Try.prog.cellsOf 24 = 1 from by kernel_rfl] at h4
    have hfa := fits_agg Try.underlying26 hF
    obtain ⟨origin, e0, d0, k0⟩ := DataW.trod_string Try.underlying9 h0
    obtain ⟨name, e1, d1, k1⟩ := DataW.trod_string Try.underlying9 h1
    obtain ⟨time, e2, d2, k2⟩ := DataW.trod_string Try.underlying9 h2
    obtain ⟨alA, alc, al, e3, hR3, hl3, _, _, hB3⟩ := open_rowsB (El := ElA) (mu := muA) (size := 2) (by_ := 32) Try.underlying23 (by kernel_rfl) (by kernel_rfl) (by decide) (by decide) (fun f cs x h hF => by
      obtain ⟨n, v, rfl, hn, hv, hB⟩ := open_at0B h hF
      exact ⟨⟨n, v⟩, ⟨rfl, hn, hv⟩, hB⟩) h3 (fits_cons (fits_cons (fits_cons (fits_cons hfa).2).2).2).1
    obtain ⟨psA, psc, ps, e4, hR4, hl4, _, _, hB4⟩ := open_rowsB (El := ElP) (mu := muP) (size := 3) (by_ := 56) Try.underlying24 (by kernel_rfl) (by kernel_rfl) (by decide) (by decide) (fun f cs x h hF => by
      obtain ⟨line, conn, alA, alc, al, rfl, h1, h2, h3, h4, hB⟩ := open_pa0B h hF
      exact ⟨(⟨line, conn, al⟩, .slice alA al.length alc), ⟨rfl, ⟨alA, alc, rfl, (elA_of h3).1⟩, h4, h1, h2, (elA_of h3).2, by show al.length ≤ _; omega⟩, hB⟩) h4 (fits_cons (fits_cons (fits_cons (fits_cons (fits_cons hfa).2).2).2).2).1
    simp only [List.drop_zero, List.drop_succ_cons, List.take_succ_cons, List.take_zero, List.cons.injEq, and_true] at e0 e1 e2 e3 e4
    subst e0 e1 e2 e3 e4
    have z0 : origin.data.toList.length = origin.size := Array.length_toList ..
    have z1 : name.data.toList.length = name.size := Array.length_toList ..
    have z2 : time.data.toList.length = time.size := Array.length_toList ..
    exact ⟨origin, name, time, alA, alc, al, psA, psc, ps, rfl, k0, k1, k2, hR3, hl3, hR4, hl4, (by simp only [List.map_cons, List.map_nil, Rows.uptoBulk, Rows.uptoBulkAll, d0, d1, d2]; omega)⟩
def sizeS (y : Ss) (pv : List (Pa × Value)) : Nat := y.origin.size + y.name.size + y.time.size + sumOf muA y.attrs + sumOf muP pv
theorem open_sesB {H : Type} {enc : TypeId × Value → H} {w : World} {base : Nat} {held : Bool} {fuel : Nat} {cs : List Value} {x : DataW H × List MemPlace} (h : DataW.trod enc Try.prog w base (fun _ => true) held fuel 26 cs = some x) (hF : Fits Try.prog 26 x.1) :
    ∃ (y : Ss) (vA vP : Value) (pv : List (Pa × Value)), cs = (head5 y vA vP).toList ∧ Ses (Img.of w) vA vP pv y ∧ Sized y ∧ y.attrs.length * 32 ≤ 140737488351232 ∧ pv.length * 56 ≤ 140737488351232 ∧ (∀ p ∈ pv, p.1.attrs.length * 32 ≤ 140737488351232) ∧ sizeS y pv ≤ Rows.uptoBulk x.1 := by
  obtain ⟨origin, name, time, alA, alc, al, psA, psc, ps, rfl, h1, h2, h3, hA, hAl, hP, hPl, hB⟩ := open_ses0B h hF
  refine ⟨⟨origin, name, time, al, partsOf ps⟩, .slice alA al.length alc, .slice psA ps.length psc, ps, rfl, ⟨⟨alA, alc, rfl, (elA_of hA).1⟩, ⟨psA, psc, rfl, (elP_of hP).1⟩, fun p hp => ((elP_of hP).2 p hp).1, rfl⟩, ⟨h1, h2, h3, (elA_of hA).2, by show al.length ≤ _; omega, fun p hp => ?_, by show (partsOf ps).length ≤ _; simp only [partsOf, List.length_map]; omega⟩, hAl, hPl, fun p hp => ((elP_of hP).2 p hp).2.1, hB⟩
  obtain ⟨q, hq, rfl⟩ := List.mem_map.1 hp
  exact ((elP_of hP).2 q hq).2.2
theorem attrsL_sum : ∀ l : List At, (attrsL l).length ≤ 6 * sumOf muA l ∧ l.length ≤ sumOf muA l
  | [] => ⟨Nat.zero_le _, Nat.zero_le _⟩
  | a :: r => by
    obtain ⟨h1, h2⟩ := attrsL_sum r
    have h3 := attrL_len2 a
    simp only [attrsL, sumOf, muA, List.length_append, List.length_cons]
    rw [h3]
    split <;> omega
theorem partsL_sum : ∀ l : List (Pa × Value), (partsL (partsOf l)).length ≤ 10 * sumOf muP l ∧ l.length + cnt (partsOf l) ≤ sumOf muP l
  | [] => ⟨Nat.zero_le _, Nat.zero_le _⟩
  | p :: r => by
    obtain ⟨h1, h2⟩ := partsL_sum r
    have h3 := partL_len2 p.1
    obtain ⟨h4, h5⟩ := attrsL_sum p.1.attrs
    have e : partsOf (p :: r) = p.1 :: partsOf r := rfl
    rw [e]
    simp only [partsL, sumOf, muP, cnt, List.length_append, List.length_cons]
    rw [h3]
    constructor
    · split <;> omega
    · omega
theorem size_bounds {y : Ss} {pv : List (Pa × Value)} (hp : partsOf pv = y.parts) (h : sizeS y pv ≤ 1048576) : (printS y).length ≤ 100000000 ∧ y.attrs.length + y.parts.length + cnt y.parts ≤ 100000000 := by
  obtain ⟨h1, h2⟩ := attrsL_sum y.attrs
  obtain ⟨h3, h4⟩ := partsL_sum pv
  have h5 : y.parts.length = pv.length := by rw [← hp]; simp [partsOf]
  rw [hp] at h3 h4
  unfold sizeS at h
  unfold printS
  rw [List.length_append, List.length_append, headS_len]
  omega
end Go.Proofs.Ytpbbincgddmbiaa
