/- arguments, opened: a script. -/
import Derived.Test.YtbaobonlolbnpaaLwA
import Derived.Test.YtbaobonlolbnpaaOps
namespace Go.Proofs.Ytbaobonlolbnpaa
open Go.ChangeShapes Go.WideShapes Go.ChangeAt Go.RowKit Go.Joins Go.Deep

def ElOp (_ : Img) (cs : List Value) (o : OpV) : Prop := cs = (opC o).toList ∧ OpOk o
theorem ops_of {I : Img} {A : Option Addr} {os : List OpV} (h : RowsOf I 9 ElOp A os) : OpsAt I A os := by
  refine ⟨fun h0 => ?_, fun x hx => ?_⟩
  · obtain ⟨g, o, e, hc⟩ := h h0
    refine ⟨g, o, e, fun i hi j hj => ?_⟩
    obtain ⟨cs, ⟨rfl, _⟩, hl, hcell⟩ := hc i hi
    rw [hcell j (by rw [hl]; exact hj), ← List.getElem?_eq_getElem, Array.getElem?_toList]
  · obtain ⟨i, hi, rfl⟩ := List.getElem_of_mem hx
    obtain ⟨g, o, e, hc⟩ := h (by omega)
    obtain ⟨cs, ⟨_, ho⟩, _⟩ := hc i hi
    exact ⟨ho.1, ho.2.1, ho.2.2.1⟩
end Go.Proofs.Ytbaobonlolbnpaa
