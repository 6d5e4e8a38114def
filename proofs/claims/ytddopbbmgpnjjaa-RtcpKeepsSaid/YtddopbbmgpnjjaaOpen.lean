/- arguments, opened: bytes; their bounds. -/
import Derived.Test.YtddopbbmgpnjjaaLaw
import Derived.Test.YtddopbbmgpnjjaaSt
import Derived.SizedLaws
import Derived.Lib.SmallJoins
import Derived.Deep.Slices
namespace Go.Proofs.Ytddopbbmgpnjjaa
open Go.ChangeShapes Go.WideShapes Go.ChangeAt Go.RowKit Go.Joins Go.Deep

def Fits {H : Type} (P : Program) (t : TypeId) (d : DataW H) : Prop := (d.weights P t).all (· ≤ reachBytes) = true
theorem fits_cons {H : Type} {P : Program} {t : TypeId} {ts : List TypeId} {d : DataW H} {ds : List (DataW H)} (h : (DataW.weightsEach P (t :: ts) (d :: ds)).all (· ≤ reachBytes) = true) : Fits P t d ∧ (DataW.weightsEach P ts ds).all (· ≤ reachBytes) = true := by
  simpa [DataW.weightsEach, Fits] using h
theorem fits_agg {H : Type} {P : Program} {t : TypeId} {fs : Array Field} {ps : List (DataW H)} (ht : P.underlying t = some (.struct fs)) (h : Fits P t (.agg ps)) : (DataW.weightsEach P (fs.toList.map (·.type)) ps).all (· ≤ reachBytes) = true := by
  simpa [Fits, DataW.weights, ht] using h
theorem fits_slice {H : Type} {P : Program} {t e : TypeId} {xs ys : List (DataW H)} (ht : P.underlying t = some (.slice e)) (h : Fits P t (.slice xs ys)) : (xs.length + ys.length) * P.bytesOf e ≤ reachBytes ∧ ∀ d ∈ xs, Fits P e d := by
  simp only [Fits, DataW.weights, ht, List.all_cons, Bool.and_eq_true, decide_eq_true_eq, List.all_append] at h
  refine ⟨h.1, fun d hd => ?_⟩
  have h2 := h.2.1
  clear h
  induction xs with
  | nil => cases hd
  | cons x r ih =>
    simp only [DataW.weightsAll, List.all_append, Bool.and_eq_true] at h2
    rcases List.mem_cons.1 hd with rfl | hd
    · exact h2.1
    · exact ih hd h2.2

theorem byte_of {z : Int} (h : (Lit.int .u8 z).wf = true) : ((UInt8.ofNat z.toNat).toNat : Int) = z := by
  have hb : 0 ≤ z ∧ z ≤ 255 := by simpa [Lit.wf, IntKind.min, IntKind.max, IntKind.signed, IntKind.bits] using h
  rw [UInt8.toNat_ofNat', Nat.mod_eq_of_lt (by simp; omega)]
  omega


section
variable {H : Type} {enc : TypeId × Value → H} {P : Program} {w : World} {base : Nat} {spare : Nat → Bool} {held : Bool}
theorem open_byts {t e : TypeId} {fuel : Nat} {cs : List Value} {x : DataW H × List MemPlace} (ht : P.underlying t = some (.slice e)) (he : P.underlying e = some (.int .u8)) (hc : P.cellsOf e = 1) (hy : P.bytesOf e = 1)
    (h : DataW.trod enc P w base spare held fuel t cs = some x) :
    ∃ (A : Option Addr) (c : Nat) (bs : List UInt8), cs = [.slice A bs.length c] ∧ Byts (Img.of w) A bs ∧ bs.length ≤ c ∧ (Fits P t x.1 → bs.length ≤ 140737488351232) := by
  rcases open_ints ht he hc h with ⟨rfl, rfl⟩ | ⟨a, len, cap, zs, rfl, _, hl, _, hz, rfl, hcell, hwf⟩
  · exact ⟨none, 0, [], rfl, Byts.nil _ _, Nat.le_refl _, fun _ => Nat.zero_le _⟩
  · have hzl : len ≤ zs.length := by rw [hz]; split <;> omega
    have hlen : ((zs.take len).map fun z => UInt8.ofNat z.toNat).length = len := by rw [List.length_map, List.length_take]; omega
    refine ⟨some a, cap, (zs.take len).map fun z => UInt8.ofNat z.toNat, by rw [hlen], ?_, by rw [hlen]; exact hl, fun hf => ?_⟩
    · intro h0
      rw [bvs_len, hlen] at h0
      have h00 := hcell 0 (by omega)
      have hsp : a.spot = none := by simpa [Addr.add] using World.cell?_spot h00
      obtain ⟨g, o, spot⟩ := a
      simp only at hsp
      subst hsp
      refine ⟨g, o, rfl, fun j hj => ?_⟩
      rw [Img.of_cell]
      have hj' : j < zs.length := by rw [bvs_len, hlen] at hj; omega
      have hcj := hcell j hj'
      rw [add_at] at hcj
      rw [hcj]
      have e1 : zs.getD j 0 = zs[j] := by simp [hj']
      rw [e1]
      simp only [bvs, bv, List.getElem_map, List.getElem_take]
      rw [byte_of (hwf _ (List.getElem_mem hj'))]
    · have := (fits_slice ht hf).1
      rw [hy] at this
      simp only [lits, List.length_map, List.length_take, List.length_drop, reachBytes] at this
      rw [hlen]
      omega
end
/-- a slice whose elements are read by El, size cells each -/
def RowsOf {α : Type} (I : Img) (size : Nat) (El : Img → List Value → α → Prop) (A : Option Addr) (ys : List α) : Prop :=
  0 < ys.length → ∃ g o, A = some ⟨g, o, none⟩ ∧ ∀ i (h : i < ys.length), ∃ cs, El I cs ys[i] ∧ cs.length = size ∧ ∀ j (h : j < cs.length), I.cell? ⟨g, o + i * size + j, none⟩ = some cs[j]
section
variable {H : Type} {enc : TypeId × Value → H} {P : Program} {w : World} {base : Nat} {held : Bool}
theorem open_rows {α : Type} {t e size by_ : Nat} {El : Img → List Value → α → Prop} (ht : P.underlying t = some (.slice e)) (hcell : P.cellsOf e = size) (hby : P.bytesOf e = by_) (h0 : 0 < size) (h1 : 0 < by_)
    (hel : ∀ (fuel : Nat) (cs : List Value) (x : DataW H × List MemPlace), DataW.trod enc P w base (fun _ => true) held fuel e cs = some x → Fits P e x.1 → ∃ y, El (Img.of w) cs y)
    {fuel : Nat} {cs : List Value} {x : DataW H × List MemPlace} (h : DataW.trod enc P w base (fun _ => true) held fuel t cs = some x) (hF : Fits P t x.1) :
    ∃ (A : Option Addr) (c : Nat) (ys : List α), cs = [.slice A ys.length c] ∧ RowsOf (Img.of w) size El A ys ∧ ys.length * by_ ≤ 140737488351232 ∧ ys.length ≤ 140737488351232 ∧ ys.length ≤ c := by
  rcases open_slice ht h with ⟨rfl, rfl⟩ | ⟨a, len, cap, m, n, D, Pl, rfl, _, hlc, _, hm, rfl, hi⟩
  · exact ⟨none, 0, [], rfl, fun h0 => absurd h0 (by simp), by simp, Nat.zero_le _, Nat.le_refl _⟩
  · simp only [if_true] at hm
    obtain ⟨hsz, hfe⟩ := fits_slice ht hF
    rw [hby] at hsz
    simp only [List.length_map, List.length_range, reachBytes] at hsz
    have hex : ∀ i : Fin len, ∃ y : α, ∃ cs' g o, a = ⟨g, o, none⟩ ∧ El (Img.of w) cs' y ∧ cs'.length = size ∧ ∀ j (h : j < cs'.length), (Img.of w).cell? ⟨g, o + i.1 * size + j, none⟩ = some cs'[j] := by
      intro i
      obtain ⟨cs', hc, ht'⟩ := hi i.1 (by omega)
      obtain ⟨y, hy⟩ := hel _ _ _ ht' (hfe _ (List.mem_map.2 ⟨i.1, List.mem_range.2 i.2, rfl⟩))
      obtain ⟨_, hcl, hat⟩ := World.cells?_some hc
      rw [hcell] at hat hcl
      have hsp : a.spot = none := by
        obtain ⟨cs0, hc0, ht0⟩ := hi 0 (by have := i.2; omega)
        obtain ⟨_, hcl0, hat0⟩ := World.cells?_some hc0
        rw [hcell] at hat0 hcl0
        have := hat0 0 (by omega)
        rw [List.getElem?_eq_getElem (by omega)] at this
        simp only [Nat.zero_mul, Addr.add, if_true] at this
        exact World.cell?_spot this
      obtain ⟨g, o, spot⟩ := a
      simp only at hsp
      subst hsp
      refine ⟨y, cs', g, o, rfl, hy, hcl, fun j hj => ?_⟩
      have := hat j (by omega)
      rw [add_at, add_at, List.getElem?_eq_getElem hj] at this
      rw [Img.of_cell]; exact this
    have hlen : len * by_ ≤ 140737488351232 := by
      have : len * by_ ≤ (len + (m - len)) * by_ := Nat.mul_le_mul_right _ (by omega)
      omega
    refine ⟨some a, cap, List.ofFn fun i : Fin len => Classical.choose (hex i), by rw [List.length_ofFn], ?_, by rw [List.length_ofFn]; exact hlen, by rw [List.length_ofFn]; exact Nat.le_trans (Nat.le_mul_of_pos_right _ h1) hlen, by rw [List.length_ofFn]; omega⟩
    intro h0
    rw [List.length_ofFn] at h0
    obtain ⟨_, g, o, e, _⟩ := Classical.choose_spec (hex ⟨0, h0⟩)
    refine ⟨g, o, by rw [e], fun i hi' => ?_⟩
    rw [List.length_ofFn] at hi'
    obtain ⟨cs', g', o', e', hop⟩ := Classical.choose_spec (hex ⟨i, hi'⟩)
    rw [e] at e'
    injection e' with e1 e2
    subst e1 e2
    rw [List.getElem_ofFn]
    exact ⟨cs', hop⟩
end
end Go.Proofs.Ytddopbbmgpnjjaa
