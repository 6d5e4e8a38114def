import Derived.Test.YtpfacfolocjidaaOpenB
namespace Go.Proofs.Ytpfacfolocjidaa
open Go.ChangeShapes Go.WideShapes Go.ChangeAt Go.RowKit Go.Joins

theorem cells27 : Try.prog.cellsOf 27 = 1 := by kernel_rfl
theorem cells5 : Try.prog.cellsOf 5 = 1 := by kernel_rfl
theorem bytes5 : Try.prog.bytesOf 5 = 1 := by kernel_rfl
theorem cells22 : Try.prog.cellsOf 22 = 1 := by kernel_rfl
theorem cells26 : Try.prog.cellsOf 26 = 1 := by kernel_rfl
theorem cells38 : Try.prog.cellsOf 38 = 3 := by kernel_rfl
section
variable {H : Type} {enc : TypeId × Value → H} {w : World} {base : Nat} {spare : Nat → Bool} {held : Bool}
theorem open_msg {fuel : Nat} {cs : List Value} {x : DataW H × List MemPlace} (h : DataW.trod enc Try.prog w base spare held fuel 38 cs = some x) :
    ∃ (s k : Int) (A : Option Addr) (c : Nat) (d : List UInt8), cs = [.int .u16 s, .int .u32 k, .slice A d.length c] ∧ Byts w A d ∧ d.length ≤ c ∧ (Fits Try.prog 38 x.1 → d.length ≤ 140737488351232) := by
  obtain ⟨xs, n, _, rfl, hl, hlen, hf⟩ := DataW.trod_struct Try.underlying38 h
  rw [cells38] at hl
  match cs, hl, xs, hlen with
  | [c0, c1, c2], _, [y0, y1, y2], _ =>
    have h0 : DataW.trod enc Try.prog w base spare held n 22 (([c0, c1, c2].drop 0).take (Try.prog.cellsOf 22)) = some y0 := hf 0 _ rfl
    have h1 : DataW.trod enc Try.prog w base spare held n 26 (([c0, c1, c2].drop 1).take (Try.prog.cellsOf 26)) = some y1 := hf 1 _ rfl
    have h2 : DataW.trod enc Try.prog w base spare held n 27 (([c0, c1, c2].drop 2).take (Try.prog.cellsOf 27)) = some y2 := hf 2 _ rfl
    rw [cells22] at h0
    rw [cells26] at h1
    rw [cells27] at h2
    obtain ⟨s, e0, hy0, _⟩ := DataW.trod_int Try.underlying22 h0
    obtain ⟨k, e1, hy1, _⟩ := DataW.trod_int Try.underlying26 h1
    obtain ⟨A, c, d, e2, hB, hc, hfit⟩ := open_byts Try.underlying27 Try.underlying5 cells5 bytes5 h2
    simp only [List.drop_zero, List.drop_succ_cons, List.take_succ_cons, List.take_zero, List.cons.injEq, and_true] at e0 e1 e2
    subst e0 e1 e2
    refine ⟨s, k, A, c, d, rfl, hB, hc, fun hF => hfit ?_⟩
    have := fits_agg Try.underlying38 hF
    exact (fits_cons (fits_cons (fits_cons this).2).2).1
end
end Go.Proofs.Ytpfacfolocjidaa
