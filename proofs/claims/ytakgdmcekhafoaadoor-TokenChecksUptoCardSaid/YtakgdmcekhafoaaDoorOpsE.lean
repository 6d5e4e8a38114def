/- the variables of strconv's errors. -/
import Derived.Test.YtakgdmcekhafoaaDoorOps
import Derived.Test.YtakgdmcekhafoaaDoorToY
import Derived.LaidLaws
namespace Go.Proofs.YtakgdmcekhafoaaDoor
open Go.ChangeShapes Go.WideShapes Go.ChangeAt Go.RowKit Go.Joins Go.Deep

theorem gE1 : Tryd.prog.globalNamed "strconv.ErrSyntax" = some 0 := by kernel_rfl
theorem gE1Type : (Tryd.prog.globals[0]?).map (·.type) = some 54 := by kernel_rfl
theorem gE2 : Tryd.prog.globalNamed "strconv.ErrRange" = some 1 := by kernel_rfl
theorem gE2Type : (Tryd.prog.globals[1]?).map (·.type) = some 54 := by kernel_rfl
theorem errv_of {W : World} {n nm : String} {d : DataW Unit} {g : Nat} {ti : TypeId} {ms : Array (String × TypeId)} {r : List (String × DataW Unit)} (hg : Tryd.prog.globalNamed n = some g) (ht : (Tryd.prog.globals[g]?).map (·.type) = some ti) (hi : Tryd.prog.underlying ti = some (.interface ms)) (h : laidMet Tryd.prog ((n, .iface nm d) :: r) W) : ErrV (Img.of W) g := by
  obtain ⟨ps, ⟨g', t', cs, fuel, p, q, hg', ht', hvar, hd, _, _⟩, _⟩ := h
  obtain rfl := Option.some.inj (hg.symm.trans hg')
  obtain rfl := Option.some.inj (ht.symm.trans ht')
  obtain ⟨f2, u, v, e, _, _⟩ := iface_of_trod hi hd
  have hc := World.var?_cell hg hvar 0
  have e0 : cs[0]? = some (.iface u v) := by rw [← Array.getElem?_toList, e]; rfl
  exact ⟨.iface u v, (Img.of_cell W _).trans (hc.trans e0), .inr ⟨u, v, rfl⟩⟩
theorem errv1 {W : World} {l : List (String × DataW Unit)} (h : laidMetH Tryd.prog l W) (hl : (l.filter fun x => x.1 == "strconv.ErrSyntax") = [("strconv.ErrSyntax", Rows.laid_strconv_ErrSyntax)]) : ErrV (Img.of W) 0 := by
  have h1 := h.filter (fun x => x.1 == "strconv.ErrSyntax")
  rw [hl] at h1
  exact errv_of (r := []) gE1 gE1Type Tryd.underlying54 h1
theorem errv2 {W : World} {l : List (String × DataW Unit)} (h : laidMetH Tryd.prog l W) (hl : (l.filter fun x => x.1 == "strconv.ErrRange") = [("strconv.ErrRange", Rows.laid_strconv_ErrRange)]) : ErrV (Img.of W) 1 := by
  have h1 := h.filter (fun x => x.1 == "strconv.ErrRange")
  rw [hl] at h1
  exact errv_of (r := []) gE2 gE2Type Tryd.underlying54 h1
end Go.Proofs.YtakgdmcekhafoaaDoor
