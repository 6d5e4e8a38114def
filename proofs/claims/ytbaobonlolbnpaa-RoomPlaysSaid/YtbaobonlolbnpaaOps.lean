/- arguments, opened: claims, a call, calls. -/
import Derived.Test.YtbaobonlolbnpaaRoM
import Derived.Test.YtbaobonlolbnpaaOpen
namespace Go.Proofs.Ytbaobonlolbnpaa
open Go.ChangeShapes Go.WideShapes Go.ChangeAt Go.RowKit Go.Joins Go.Deep

theorem cellsOf30 : Try.prog.cellsOf 30 = 4 := by kernel_rfl
theorem open_claims {H : Type} {enc : TypeId × Value → H} {w : World} {base : Nat} {spare : Nat → Bool} {held : Bool} {fuel : Nat} {cs : List Value} {x : DataW H × List MemPlace} (h : DataW.trod enc Try.prog w base spare held fuel 30 cs = some x) (hF : Fits Try.prog 30 x.1) :
    ∃ (room : ByteArray) (user : ByteArray) (til : Int) (rights : Int), cs = [.string room, .string user, .int .i64 til, .int .i64 rights] ∧ room.size ≤ maxLen ∧ user.size ≤ maxLen ∧ (Lit.int .i64 til).wf = true ∧ (Lit.int .i64 rights).wf = true := by
  obtain ⟨xs, n, _, rfl, hl, hlen, hf⟩ := DataW.trod_struct Try.underlying30 h
  rw [cellsOf30] at hl
  match cs, hl, xs, hlen with
  | [c0, c1, c2, c3], _, [y0, y1, y2, y3], _ =>
    have h0 : DataW.trod enc Try.prog w base spare held n 9 (([c0, c1, c2, c3].drop 0).take (Try.prog.cellsOf 9)) = some y0 := hf 0 _ rfl
    have h1 : DataW.trod enc Try.prog w base spare held n 9 (([c0, c1, c2, c3].drop 1).take (Try.prog.cellsOf 9)) = some y1 := hf 1 _ rfl
    have h2 : DataW.trod enc Try.prog w base spare held n 2 (([c0, c1, c2, c3].drop 2).take (Try.prog.cellsOf 2)) = some y2 := hf 2 _ rfl
    have h3 : DataW.trod enc Try.prog w base spare held n 3 (([c0, c1, c2, c3].drop 3).take (Try.prog.cellsOf 3)) = some y3 := hf 3 _ rfl
    rw [show Try.prog.cellsOf 9 = 1 from by kernel_rfl] at h0
    rw [show Try.prog.cellsOf 9 = 1 from by kernel_rfl] at h1
    rw [show Try.prog.cellsOf 2 = 1 from by kernel_rfl] at h2
    rw [show Try.prog.cellsOf 3 = 1 from by kernel_rfl] at h3
    have hfa := fits_agg Try.underlying30 hF
    obtain ⟨room, e0, _, k0⟩ := DataW.trod_string Try.underlying9 h0
    obtain ⟨user, e1, _, k1⟩ := DataW.trod_string Try.underlying9 h1
    obtain ⟨til, e2, _, k2⟩ := DataW.trod_int Try.underlying2 h2
    obtain ⟨rights, e3, _, k3⟩ := DataW.trod_int Try.underlying3 h3
    simp only [List.drop_zero, List.drop_succ_cons, List.take_succ_cons, List.take_zero, List.cons.injEq, and_true] at e0 e1 e2 e3
    subst e0 e1 e2 e3
    exact ⟨room, user, til, rights, rfl, k0, k1, k2, k3⟩
def OpOk (o : OpV) : Prop := o.text.size ≤ maxLen ∧ o.room.size ≤ maxLen ∧ o.user.size ≤ maxLen ∧ (Lit.int .i64 o.n).wf = true
theorem cellsOf32 : Try.prog.cellsOf 32 = 9 := by kernel_rfl
theorem open_op {H : Type} {enc : TypeId × Value → H} {w : World} {base : Nat} {spare : Nat → Bool} {held : Bool} {fuel : Nat} {cs : List Value} {x : DataW H × List MemPlace} (h : DataW.trod enc Try.prog w base spare held fuel 32 cs = some x) (hF : Fits Try.prog 32 x.1) :
    ∃ o : OpV, cs = (opC o).toList ∧ OpOk o := by
  obtain ⟨xs, n, _, rfl, hl, hlen, hf⟩ := DataW.trod_struct Try.underlying32 h
  rw [cellsOf32] at hl
  match cs, hl, xs, hlen with
  | [c0, c1, c2, c3, c4, c5, c6, c7, c8], _, [y0, y1, y2, y3, y4, y5], _ =>
    have h0 : DataW.trod enc Try.prog w base spare held n 3 (([c0, c1, c2, c3, c4, c5, c6, c7, c8].drop 0).take (Try.prog.cellsOf 3)) = some y0 := hf 0 _ rfl
    have h1 : DataW.trod enc Try.prog w base spare held n 3 (([c0, c1, c2, c3, c4, c5, c6, c7, c8].drop 1).take (Try.prog.cellsOf 3)) = some y1 := hf 1 _ rfl
    have h2 : DataW.trod enc Try.prog w base spare held n 3 (([c0, c1, c2, c3, c4, c5, c6, c7, c8].drop 2).take (Try.prog.cellsOf 3)) = some y2 := hf 2 _ rfl
    have h3 : DataW.trod enc Try.prog w base spare held n 3 (([c0, c1, c2, c3, c4, c5, c6, c7, c8].drop 3).take (Try.prog.cellsOf 3)) = some y3 := hf 3 _ rfl
    have h4 : DataW.trod enc Try.prog w base spare held n 9 (([c0, c1, c2, c3, c4, c5, c6, c7, c8].drop 4).take (Try.prog.cellsOf 9)) = some y4 := hf 4 _ rfl
    have h5 : DataW.trod enc Try.prog w base spare held n 30 (([c0, c1, c2, c3, c4, c5, c6, c7, c8].drop 5).take (Try.prog.cellsOf 30)) = some y5 := hf 5 _ rfl
    rw [show Try.prog.cellsOf 3 = 1 from by kernel_rfl] at h0 h1 h2 h3
    rw [show Try.prog.cellsOf 9 = 1 from by kernel_rfl] at h4
    rw [show Try.prog.cellsOf 30 = 4 from by kernel_rfl] at h5
    have hfa := fits_agg Try.underlying32 hF
    obtain ⟨kind, e0, _, k0⟩ := DataW.trod_int Try.underlying3 h0
    obtain ⟨nn, e1, _, k1⟩ := DataW.trod_int Try.underlying3 h1
    obtain ⟨m, e2, _, k2⟩ := DataW.trod_int Try.underlying3 h2
    obtain ⟨l, e3, _, k3⟩ := DataW.trod_int Try.underlying3 h3
    obtain ⟨text, e4, _, k4⟩ := DataW.trod_string Try.underlying9 h4
    obtain ⟨room, user, til, rights, e5, k5, k6, k7, k8⟩ := open_claims h5 (fits_cons (fits_cons (fits_cons (fits_cons (fits_cons (fits_cons hfa).2).2).2).2).2).1
    simp only [List.drop_zero, List.drop_succ_cons, List.take_succ_cons, List.take_zero, List.cons.injEq, and_true] at e0 e1 e2 e3 e4 e5
    obtain ⟨e5, e6, e7, e8⟩ := e5
    subst e0 e1 e2 e3 e4 e5 e6 e7 e8
    exact ⟨⟨kind, nn, m, l, text, room, user, til, rights⟩, rfl, k4, k5, k6, k1⟩
end Go.Proofs.Ytbaobonlolbnpaa
