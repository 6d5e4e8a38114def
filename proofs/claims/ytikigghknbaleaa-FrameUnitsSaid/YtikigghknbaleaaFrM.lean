/- slices of bytes, as the law of the units reads them. -/
import Derived.Test.YtikigghknbaleaaFrL
import Derived.Test.YtikigghknbaleaaOpen
namespace Go.Proofs.Ytikigghknbaleaa
def ElB (I : Img) (cs : List Value) (u : List UInt8) : Prop := ∃ B c, cs = [.slice B u.length c] ∧ Byts I B u ∧ u.length ≤ 140737488351232
theorem rows_of {I : Img} {A : Option Addr} {us : List (List UInt8)} (h : RowsOf I 1 ElB A us) : Rows I A us ∧ ∀ u ∈ us, u.length ≤ 140737488351232 := by
  refine ⟨fun h0 => ?_, fun u hu => ?_⟩
  · obtain ⟨g, o, e, hc⟩ := h h0
    refine ⟨g, o, e, fun i hi => ?_⟩
    obtain ⟨cs, ⟨B, c, rfl, hB, _⟩, _, hcell⟩ := hc i hi
    have := hcell 0 (by simp)
    rw [Nat.mul_one, Nat.add_zero] at this
    exact ⟨B, c, this, hB⟩
  · obtain ⟨i, hi, rfl⟩ := List.getElem_of_mem hu
    obtain ⟨g, o, e, hc⟩ := h (by omega)
    obtain ⟨cs, ⟨B, c, _, _, hl⟩, _⟩ := hc i hi
    exact hl
end Go.Proofs.Ytikigghknbaleaa
