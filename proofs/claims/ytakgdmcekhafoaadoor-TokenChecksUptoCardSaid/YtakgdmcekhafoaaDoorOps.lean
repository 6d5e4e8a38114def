/- arguments, opened: claims; the table of powers. -/
import Derived.Test.YtakgdmcekhafoaaDoorToK
import Derived.Test.YtakgdmcekhafoaaDoorOpen
import Derived.LaidSub
import Derived.Lib.LaidTab
namespace Go.Proofs.YtakgdmcekhafoaaDoor
open Go.ChangeShapes Go.WideShapes Go.ChangeAt Go.RowKit Go.Joins Go.Deep

theorem gPow : Tryd.prog.globalNamed "internal/strconv.uint64pow10" = some 2 := by kernel_rfl
theorem gPowType : (Tryd.prog.globals[2]?).map (·.type) = some 120 := by kernel_rfl
theorem cells120 : Tryd.prog.cellsOf 120 = 20 := by kernel_rfl
theorem cells48 : Tryd.prog.cellsOf 48 = 1 := by kernel_rfl
/-- the table of powers, out of what a row lists -/
theorem tab10 {W : World} {l : List (String × DataW Unit)} (h : laidMetH Tryd.prog l W) (hl : (l.filter fun x => x.1 == "internal/strconv.uint64pow10") = [("internal/strconv.uint64pow10", Rows.laid_internal_strconv_uint64pow10)]) : Lib.TabIs Tryd.prog W "internal/strconv.uint64pow10" .u64 Lib.pow10Tab := by
  have h1 := h.filter (fun x => x.1 == "internal/strconv.uint64pow10")
  rw [hl] at h1
  exact Lib.tabIs_of_head (rest := []) gPow gPowType Tryd.underlying120 Tryd.underlying48 cells48 cells120 h1
theorem tab_of {W : World} (h : Lib.TabIs Tryd.prog W "internal/strconv.uint64pow10" .u64 Lib.pow10Tab) : Tab10 (Img.of W) := by
  intro M w hs
  unfold Lib.TabIs World.var? at *
  rw [gPow] at *
  simp only [Option.bind_some] at h ⊢
  cases ho : W.heap[2]? with
  | none => rw [ho] at h; cases h
  | some o =>
    rw [hs.img 2 o ho]
    rw [ho] at h
    exact h
theorem cellsOf24 : Tryd.prog.cellsOf 24 = 4 := by kernel_rfl
set_option maxRecDepth 8000 in
theorem open_cl {H : Type} {enc : TypeId × Value → H} {w : World} {base : Nat} {spare : Nat → Bool} {held : Bool} {fuel : Nat} {cs : List Value} {x : DataW H × List MemPlace} (h : DataW.trod enc Tryd.prog w base spare held fuel 24 cs = some x) (hF : Fits Tryd.prog 24 x.1) :
    ∃ (room : ByteArray) (user : ByteArray) (til : Int) (rights : Int), cs = [.string room, .string user, .int .i64 til, .int .i64 rights] ∧ room.size ≤ maxLen ∧ user.size ≤ maxLen ∧ (Lit.int .i64 til).wf = true ∧ (Lit.int .i64 rights).wf = true := by
  obtain ⟨xs, n, _, rfl, hl, hlen, hf⟩ := DataW.trod_struct Tryd.underlying24 h
  rw [cellsOf24] at hl
  match cs, hl, xs, hlen with
  | [c0, c1, c2, c3], _, [y0, y1, y2, y3], _ =>
    have h0 : DataW.trod enc Tryd.prog w base spare held n 9 (([c0, c1, c2, c3].drop 0).take (Tryd.prog.cellsOf 9)) = some y0 := hf 0 _ rfl
    have h1 : DataW.trod enc Tryd.prog w base spare held n 9 (([c0, c1, c2, c3].drop 1).take (Tryd.prog.cellsOf 9)) = some y1 := hf 1 _ rfl
    have h2 : DataW.trod enc Tryd.prog w base spare held n 2 (([c0, c1, c2, c3].drop 2).take (Tryd.prog.cellsOf 2)) = some y2 := hf 2 _ rfl
    have h3 : DataW.trod enc Tryd.prog w base spare held n 3 (([c0, c1, c2, c3].drop 3).take (Tryd.prog.cellsOf 3)) = some y3 := hf 3 _ rfl
    rw [show Tryd.prog.cellsOf 9 = 1 from by kernel_rfl] at h0
    rw [show Tryd.prog.cellsOf 9 = 1 from by kernel_rfl] at h1
    rw [show Tryd.prog.cellsOf 2 = 1 from by kernel_rfl] at h2
    rw [show Tryd.prog.cellsOf 3 = 1 from by kernel_rfl] at h3
    have hfa := fits_agg Tryd.underlying24 hF
    obtain ⟨room, e0, d0, k0⟩ := DataW.trod_string Tryd.underlying9 h0
    obtain ⟨user, e1, d1, k1⟩ := DataW.trod_string Tryd.underlying9 h1
    obtain ⟨til, e2, _, k2⟩ := DataW.trod_int Tryd.underlying2 h2
    obtain ⟨rights, e3, _, k3⟩ := DataW.trod_int Tryd.underlying3 h3
    simp only [List.drop_zero, List.drop_succ_cons, List.take_succ_cons, List.take_zero, List.cons.injEq, and_true] at e0 e1 e2 e3
    subst e0 e1 e2 e3
    exact ⟨room, user, til, rights, rfl, k0, k1, k2, k3⟩
end Go.Proofs.YtakgdmcekhafoaaDoor
