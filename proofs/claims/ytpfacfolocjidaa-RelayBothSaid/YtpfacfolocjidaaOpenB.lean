/- arguments of kind []byte, opened to bytes; their bound. -/
import Derived.Test.YtpfacfolocjidaaLaw
import Derived.Test.YtpfacfolocjidaaReader
import Derived.SizedLaws
import Derived.Lib.SmallJoins
namespace Go.Proofs.Ytpfacfolocjidaa
open Go.ChangeShapes Go.WideShapes Go.ChangeAt Go.RowKit Go.Joins

def Fits {H : Type} (P : Program) (t : TypeId) (d : DataW H) : Prop := (d.weights P t).all (· ≤ reachBytes) = true
theorem fits_cons {H : Type} {P : Program} {t : TypeId} {ts : List TypeId} {d : DataW H} {ds : List (DataW H)} (h : (DataW.weightsEach P (t :: ts) (d :: ds)).all (· ≤ reachBytes) = true) : Fits P t d ∧ (DataW.weightsEach P ts ds).all (· ≤ reachBytes) = true := by
  simpa [DataW.weightsEach, Fits] using h
theorem fits_agg {H : Type} {P : Program} {t : TypeId} {fs : Array Field} {ps : List (DataW H)} (ht : P.underlying t = some (.struct fs)) (h : Fits P t (.agg ps)) : (DataW.weightsEach P (fs.toList.map (·.type)) ps).all (· ≤ reachBytes) = true := by
  simpa [Fits, DataW.weights, ht] using h
theorem fits_slice {H : Type} {P : Program} {t e : TypeId} {xs ys : List (DataW H)} (ht : P.underlying t = some (.slice e)) (h : Fits P t (.slice xs ys)) : (xs.length + ys.length) * P.bytesOf e ≤ reachBytes ∧ ∀ d ∈ xs, Fits P e d := by
  simp only [Fits, DataW.weights, ht, List.all_cons, Bool.and_eq_true, decide_eq_true_eq, List.all_append] at h
  refine ⟨h.1, fun d hd => ?_⟩
  have h2 := h.2.1
  clear h
  induction xs with
  | nil => cases hd
  | cons x r ih =>
    simp only [DataW.weightsAll, List.all_append, Bool.and_eq_true] at h2
    rcases List.mem_cons.1 hd with rfl | hd
    · exact h2.1
    · exact ih hd h2.2

theorem byte_of {z : Int} (h : (Lit.int .u8 z).wf = true) : ((UInt8.ofNat z.toNat).toNat : Int) = z := by
  have hb : 0 ≤ z ∧ z ≤ 255 := by simpa [Lit.wf, IntKind.min, IntKind.max, IntKind.signed, IntKind.bits] using h
  rw [UInt8.toNat_ofNat', Nat.mod_eq_of_lt (by simp; omega)]
  omega

section
variable {H : Type} {enc : TypeId × Value → H} {P : Program} {w : World} {base : Nat} {spare : Nat → Bool} {held : Bool}
theorem open_byts {t e : TypeId} {fuel : Nat} {cs : List Value} {x : DataW H × List MemPlace} (ht : P.underlying t = some (.slice e)) (he : P.underlying e = some (.int .u8)) (hc : P.cellsOf e = 1) (hy : P.bytesOf e = 1)
    (h : DataW.trod enc P w base spare held fuel t cs = some x) :
    ∃ (A : Option Addr) (c : Nat) (bs : List UInt8), cs = [.slice A bs.length c] ∧ Byts w A bs ∧ bs.length ≤ c ∧ (Fits P t x.1 → bs.length ≤ 140737488351232) := by
  rcases open_ints ht he hc h with ⟨rfl, rfl⟩ | ⟨a, len, cap, zs, rfl, _, hl, _, hz, rfl, hcell, hwf⟩
  · exact ⟨none, 0, [], rfl, Byts.nil _ _, Nat.le_refl _, fun _ => Nat.zero_le _⟩
  · have hzl : len ≤ zs.length := by rw [hz]; split <;> omega
    have hlen : ((zs.take len).map fun z => UInt8.ofNat z.toNat).length = len := by rw [List.length_map, List.length_take]; omega
    refine ⟨some a, cap, (zs.take len).map fun z => UInt8.ofNat z.toNat, by rw [hlen], ?_, by rw [hlen]; exact hl, fun hf => ?_⟩
    · intro h0
      rw [hlen] at h0
      have h00 := hcell 0 (by omega)
      have hsp : a.spot = none := by simpa [Addr.add] using World.cell?_spot h00
      obtain ⟨g, o, spot⟩ := a
      simp only at hsp
      subst hsp
      have hb := World.block_lt_of_cell? _ _ h00
      rw [add_at] at hb
      refine ⟨g, o, rfl, hb, fun j hj => ?_⟩
      have hj' : j < zs.length := by rw [hlen] at hj; omega
      have hcj := hcell j hj'
      rw [add_at] at hcj
      rw [hcj]
      have e1 : zs.getD j 0 = zs[j] := by simp [hj']
      rw [e1]
      have e2 : ((zs.take len).map fun z => UInt8.ofNat z.toNat)[j] = UInt8.ofNat (zs[j]).toNat := by simp
      rw [e2, byte_of (hwf _ (List.getElem_mem hj'))]
    · have := (fits_slice ht hf).1
      rw [hy] at this
      simp only [lits, List.length_map, List.length_take, List.length_drop, reachBytes] at this
      rw [hlen]
      omega
end
end Go.Proofs.Ytpfacfolocjidaa
