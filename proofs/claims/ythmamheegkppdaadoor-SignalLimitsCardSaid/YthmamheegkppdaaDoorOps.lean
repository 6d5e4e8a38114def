/- arguments, opened: messages; the table of powers. -/
import Derived.Test.YthmamheegkppdaaDoorSgK
import Derived.Test.YthmamheegkppdaaDoorOpen
import Derived.LaidSub
import Derived.Lib.LaidTab
namespace Go.Proofs.YthmamheegkppdaaDoor
open Go.ChangeShapes Go.WideShapes Go.ChangeAt Go.RowKit Go.Joins Go.Deep

theorem gPow : Tryd.prog.globalNamed "internal/strconv.uint64pow10" = some 3 := by kernel_rfl
theorem gPowType : (Tryd.prog.globals[3]?).map (·.type) = some 109 := by kernel_rfl
theorem cells109 : Tryd.prog.cellsOf 109 = 20 := by kernel_rfl
theorem cells62 : Tryd.prog.cellsOf 62 = 1 := by kernel_rfl
/-- the table of powers, out of what a row lists -/
theorem tab10 {W : World} {l : List (String × DataW Unit)} (h : laidMetH Tryd.prog l W) (hl : (l.filter fun x => x.1 == "internal/strconv.uint64pow10") = [("internal/strconv.uint64pow10", Rows.laid_internal_strconv_uint64pow10)]) : Lib.TabIs Tryd.prog W "internal/strconv.uint64pow10" .u64 Lib.pow10Tab := by
  have h1 := h.filter (fun x => x.1 == "internal/strconv.uint64pow10")
  rw [hl] at h1
  exact Lib.tabIs_of_head (rest := []) gPow gPowType Tryd.underlying109 Tryd.underlying62 cells62 cells109 h1
theorem tab_of {W : World} (h : Lib.TabIs Tryd.prog W "internal/strconv.uint64pow10" .u64 Lib.pow10Tab) : Tab10 (Img.of W) := by
  intro M w hs
  unfold Lib.TabIs World.var? at *
  rw [gPow] at *
  simp only [Option.bind_some] at h ⊢
  cases ho : W.heap[3]? with
  | none => rw [ho] at h; cases h
  | some o =>
    rw [hs.img 3 o ho]
    rw [ho] at h
    exact h
def ElS (_ : Img) (cs : List Value) (s : ByteArray) : Prop := cs = [.string s] ∧ s.size ≤ maxLen
theorem strsOf {I : Img} {A : Option Addr} {l : List ByteArray} (h : RowsOf I 1 ElS A l) : Cells I A (strs l) ∧ ∀ a ∈ l, a.size ≤ maxLen := by
  constructor
  · intro h0
    rw [strs_len] at h0
    obtain ⟨g, o, e, hc⟩ := h h0
    refine ⟨g, o, e, fun j hj => ?_⟩
    rw [strs_len] at hj
    obtain ⟨cs, ⟨rfl, _⟩, _, hat⟩ := hc j hj
    have := hat 0 (by simp)
    rw [Nat.mul_one, Nat.add_zero] at this
    rw [this]
    simp [strs]
  · intro a ha
    obtain ⟨i, hi, rfl⟩ := List.getElem_of_mem ha
    obtain ⟨g, o, e, hc⟩ := h (by omega)
    obtain ⟨cs, hel, _⟩ := hc i hi
    exact hel.2
theorem open_strs {H : Type} {enc : TypeId × Value → H} {w : World} {base : Nat} {held : Bool} {fuel : Nat} {cs : List Value} {x : DataW H × List MemPlace} (h : DataW.trod enc Tryd.prog w base (fun _ => true) held fuel 22 cs = some x) (hF : Fits Tryd.prog 22 x.1) :
    ∃ (A : Option Addr) (c : Nat) (l : List ByteArray), cs = [.slice A l.length c] ∧ Cells (Img.of w) A (strs l) ∧ (∀ a ∈ l, a.size ≤ maxLen) ∧ l.length * 16 ≤ 140737488351232 := by
  obtain ⟨A, c, l, e, hR, hl, _⟩ := open_rows (El := ElS) (size := 1) (by_ := 16) Tryd.underlying22 (by kernel_rfl) (by kernel_rfl) (by decide) (by decide) (fun f cs x h hF => by
    obtain ⟨s, e, d, k⟩ := DataW.trod_string Tryd.underlying9 h
    exact ⟨s, e, k⟩) h hF
  obtain ⟨h1, h2⟩ := strsOf hR
  exact ⟨A, c, l, e, h1, h2, hl⟩
theorem cellsOf24 : Tryd.prog.cellsOf 24 = 3 := by kernel_rfl
set_option maxRecDepth 8000 in
theorem open_msg {H : Type} {enc : TypeId × Value → H} {w : World} {base : Nat} {held : Bool} {fuel : Nat} {cs : List Value} {x : DataW H × List MemPlace} (h : DataW.trod enc Tryd.prog w base (fun _ => true) held fuel 24 cs = some x) (hF : Fits Tryd.prog 24 x.1) :
    ∃ (verb : ByteArray) (argsA : Option Addr) (argsc : Nat) (args : List ByteArray) (body : ByteArray), cs = [.string verb, .slice argsA args.length argsc, .string body] ∧ verb.size ≤ maxLen ∧ (Cells (Img.of w) argsA (strs args) ∧ (∀ a ∈ args, a.size ≤ maxLen) ∧ args.length * 16 ≤ 140737488351232) ∧ body.size ≤ maxLen := by
  obtain ⟨xs, n, _, rfl, hl, hlen, hf⟩ := DataW.trod_struct Tryd.underlying24 h
  rw [cellsOf24] at hl
  match cs, hl, xs, hlen with
  | [c0, c1, c2], _, [y0, y1, y2], _ =>
    have h0 : DataW.trod enc Tryd.prog w base (fun _ => true) held n 9 (([c0, c1, c2].drop 0).take (Tryd.prog.cellsOf 9)) = some y0 := hf 0 _ rfl
    have h1 : DataW.trod enc Tryd.prog w base (fun _ => true) held n 22 (([c0, c1, c2].drop 1).take (Tryd.prog.cellsOf 22)) = some y1 := hf 1 _ rfl
    have h2 : DataW.trod enc Tryd.prog w base (fun _ => true) held n 9 (([c0, c1, c2].drop 2).take (Tryd.prog.cellsOf 9)) = some y2 := hf 2 _ rfl
    rw [show Tryd.prog.cellsOf 9 = 1 from by kernel_rfl] at h0
    rw [show Tryd.prog.cellsOf 22 = 1 from by kernel_rfl] at h1
    rw [show Tryd.prog.cellsOf 9 = 1 from by kernel_rfl] at h2
    have hfa := fits_agg Tryd.underlying24 hF
    obtain ⟨verb, e0, d0, k0⟩ := DataW.trod_string Tryd.underlying9 h0
    obtain ⟨argsA, argsc, args, e1, hR1, hs1, hl1⟩ := open_strs h1 (fits_cons (fits_cons hfa).2).1
    obtain ⟨body, e2, d2, k2⟩ := DataW.trod_string Tryd.underlying9 h2
    simp only [List.drop_zero, List.drop_succ_cons, List.take_succ_cons, List.take_zero, List.cons.injEq, and_true] at e0 e1 e2
    subst e0 e1 e2
    exact ⟨verb, argsA, argsc, args, body, rfl, k0, ⟨hR1, hs1, hl1⟩, k2⟩
end Go.Proofs.YthmamheegkppdaaDoor
