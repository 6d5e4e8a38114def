/- arguments, opened: Made, an operation, scripts, rows of bytes. -/
import Derived.Test.YtaemohkmingnpaaFwI
import Derived.Test.YtaemohkmingnpaaOpen
namespace Go.Proofs.Ytaemohkmingnpaa
open Go.ChangeShapes Go.WideShapes Go.ChangeAt Go.RowKit Go.Joins Go.Deep

theorem cellsOf25 : Try.prog.cellsOf 25 = 6 := by kernel_rfl
theorem open_made0 {H : Type} {enc : TypeId × Value → H} {w : World} {base : Nat} {spare : Nat → Bool} {held : Bool} {fuel : Nat} {cs : List Value} {x : DataW H × List MemPlace} (h : DataW.trod enc Try.prog w base spare held fuel 25 cs = some x) (hF : Fits Try.prog 25 x.1) :
    ∃ (codec : ByteArray) (clock : Int) (source : Int) (kind : Int) (seq : Int) (time : Int), cs = [.string codec, .int .i64 clock, .int .u32 source, .int .i64 kind, .int .u16 seq, .int .u32 time] ∧ codec.size ≤ maxLen ∧ (Lit.int .i64 clock).wf = true ∧ (Lit.int .u32 source).wf = true ∧ (Lit.int .i64 kind).wf = true ∧ (Lit.int .u16 seq).wf = true ∧ (Lit.int .u32 time).wf = true := by
  obtain ⟨xs, n, _, rfl, hl, hlen, hf⟩ := DataW.trod_struct Try.underlying25 h
  rw [cellsOf25] at hl
  match cs, hl, xs, hlen with
  | [c0, c1, c2, c3, c4, c5], _, [y0, y1, y2, y3, y4, y5], _ =>
    have h0 : DataW.trod enc Try.prog w base spare held n 9 (([c0, c1, c2, c3, c4, c5].drop 0).take (Try.prog.cellsOf 9)) = some y0 := hf 0 _ rfl
    have h1 : DataW.trod enc Try.prog w base spare held n 3 (([c0, c1, c2, c3, c4, c5].drop 1).take (Try.prog.cellsOf 3)) = some y1 := hf 1 _ rfl
    have h2 : DataW.trod enc Try.prog w base spare held n 22 (([c0, c1, c2, c3, c4, c5].drop 2).take (Try.prog.cellsOf 22)) = some y2 := hf 2 _ rfl
    have h3 : DataW.trod enc Try.prog w base spare held n 3 (([c0, c1, c2, c3, c4, c5].drop 3).take (Try.prog.cellsOf 3)) = some y3 := hf 3 _ rfl
    have h4 : DataW.trod enc Try.prog w base spare held n 23 (([c0, c1, c2, c3, c4, c5].drop 4).take (Try.prog.cellsOf 23)) = some y4 := hf 4 _ rfl
    have h5 : DataW.trod enc Try.prog w base spare held n 22 (([c0, c1, c2, c3, c4, c5].drop 5).take (Try.prog.cellsOf 22)) = some y5 := hf 5 _ rfl
    rw [show Try.prog.cellsOf 9 = 1 from by kernel_rfl] at h0
    rw [show Try.prog.cellsOf 3 = 1 from by kernel_rfl] at h1
    rw [show Try.prog.cellsOf 22 = 1 from by kernel_rfl] at h2
    rw [show Try.prog.cellsOf 3 = 1 from by kernel_rfl] at h3
    rw [show Try.prog.cellsOf 23 = 1 from by kernel_rfl] at h4
    rw [show Try.prog.cellsOf 22 = 1 from by kernel_rfl] at h5
    have hfa := fits_agg Try.underlying25 hF
    obtain ⟨codec, e0, _, k0⟩ := DataW.trod_string Try.underlying9 h0
    obtain ⟨clock, e1, _, k1⟩ := DataW.trod_int Try.underlying3 h1
    obtain ⟨source, e2, _, k2⟩ := DataW.trod_int Try.underlying22 h2
    obtain ⟨kind, e3, _, k3⟩ := DataW.trod_int Try.underlying3 h3
    obtain ⟨seq, e4, _, k4⟩ := DataW.trod_int Try.underlying23 h4
    obtain ⟨time, e5, _, k5⟩ := DataW.trod_int Try.underlying22 h5
    simp only [List.drop_zero, List.drop_succ_cons, List.take_succ_cons, List.take_zero, List.cons.injEq, and_true] at e0 e1 e2 e3 e4 e5
    subst e0 e1 e2 e3 e4 e5
    exact ⟨codec, clock, source, kind, seq, time, rfl, k0, k1, k2, k3, k4, k5⟩
theorem open_made {H : Type} {enc : TypeId × Value → H} {w : World} {base : Nat} {spare : Nat → Bool} {held : Bool} {fuel : Nat} {cs : List Value} {x : DataW H × List MemPlace} (h : DataW.trod enc Try.prog w base spare held fuel 25 cs = some x) (hF : Fits Try.prog 25 x.1) :
    ∃ m : Md, cs = (mdC m).toList ∧ m.ok := by
  obtain ⟨codec, clock, source, kind, seq, time, rfl, _, _, h2, _, h4, h5⟩ := open_made0 h hF
  refine ⟨⟨codec, clock, source, kind, seq, time⟩, rfl, ?_, ?_, ?_⟩
  · simpa [Lit.wf, IntKind.min, IntKind.max, IntKind.signed, IntKind.bits] using h2
  · simpa [Lit.wf, IntKind.min, IntKind.max, IntKind.signed, IntKind.bits] using h4
  · simpa [Lit.wf, IntKind.min, IntKind.max, IntKind.signed, IntKind.bits] using h5
theorem cellsOf44 : Try.prog.cellsOf 44 = 7 := by kernel_rfl
theorem open_op0 {H : Type} {enc : TypeId × Value → H} {w : World} {base : Nat} {spare : Nat → Bool} {held : Bool} {fuel : Nat} {cs : List Value} {x : DataW H × List MemPlace} (h : DataW.trod enc Try.prog w base spare held fuel 44 cs = some x) (hF : Fits Try.prog 44 x.1) :
    ∃ (pick : Bool) (layer : Int) (seq : Int) (time : Int) (marker : Bool) (bsA : Option Addr) (bsc : Nat) (bs : List UInt8) (now : Int), cs = [.bool pick, .int .i64 layer, .int .u16 seq, .int .u32 time, .bool marker, .slice bsA bs.length bsc, .int .i64 now] ∧ (Lit.int .i64 layer).wf = true ∧ (Lit.int .u16 seq).wf = true ∧ (Lit.int .u32 time).wf = true ∧ Byts (Img.of w) bsA bs ∧ bs.length ≤ bsc ∧ bs.length ≤ 140737488351232 ∧ (Lit.int .i64 now).wf = true := by
  obtain ⟨xs, n, _, rfl, hl, hlen, hf⟩ := DataW.trod_struct Try.underlying44 h
  rw [cellsOf44] at hl
  match cs, hl, xs, hlen with
  | [c0, c1, c2, c3, c4, c5, c6], _, [y0, y1, y2, y3, y4, y5, y6], _ =>
    have h0 : DataW.trod enc Try.prog w base spare held n 4 (([c0, c1, c2, c3, c4, c5, c6].drop 0).take (Try.prog.cellsOf 4)) = some y0 := hf 0 _ rfl
    have h1 : DataW.trod enc Try.prog w base spare held n 3 (([c0, c1, c2, c3, c4, c5, c6].drop 1).take (Try.prog.cellsOf 3)) = some y1 := hf 1 _ rfl
    have h2 : DataW.trod enc Try.prog w base spare held n 23 (([c0, c1, c2, c3, c4, c5, c6].drop 2).take (Try.prog.cellsOf 23)) = some y2 := hf 2 _ rfl
    have h3 : DataW.trod enc Try.prog w base spare held n 22 (([c0, c1, c2, c3, c4, c5, c6].drop 3).take (Try.prog.cellsOf 22)) = some y3 := hf 3 _ rfl
    have h4 : DataW.trod enc Try.prog w base spare held n 4 (([c0, c1, c2, c3, c4, c5, c6].drop 4).take (Try.prog.cellsOf 4)) = some y4 := hf 4 _ rfl
    have h5 : DataW.trod enc Try.prog w base spare held n 34 (([c0, c1, c2, c3, c4, c5, c6].drop 5).take (Try.prog.cellsOf 34)) = some y5 := hf 5 _ rfl
    have h6 : DataW.trod enc Try.prog w base spare held n 2 (([c0, c1, c2, c3, c4, c5, c6].drop 6).take (Try.prog.cellsOf 2)) = some y6 := hf 6 _ rfl
    rw [show Try.prog.cellsOf 4 = 1 from by kernel_rfl] at h0
    rw [show Try.prog.cellsOf 3 = 1 from by kernel_rfl] at h1
    rw [show Try.prog.cellsOf 23 = 1 from by kernel_rfl] at h2
    rw [show Try.prog.cellsOf 22 = 1 from by kernel_rfl] at h3
    rw [show Try.prog.cellsOf 4 = 1 from by kernel_rfl] at h4
    rw [show Try.prog.cellsOf 34 = 1 from by kernel_rfl] at h5
    rw [show Try.prog.cellsOf 2 = 1 from by kernel_rfl] at h6
    have hfa := fits_agg Try.underlying44 hF
    obtain ⟨pick, e0, _⟩ := DataW.trod_bool Try.underlying4 h0
    obtain ⟨layer, e1, _, k1⟩ := DataW.trod_int Try.underlying3 h1
    obtain ⟨seq, e2, _, k2⟩ := DataW.trod_int Try.underlying23 h2
    obtain ⟨time, e3, _, k3⟩ := DataW.trod_int Try.underlying22 h3
    obtain ⟨marker, e4, _⟩ := DataW.trod_bool Try.underlying4 h4
    obtain ⟨bsA, bsc, bs, e5, b5, cc5, k5⟩ := open_byts Try.underlying34 Try.underlying5 (by kernel_rfl) (by kernel_rfl) h5
    obtain ⟨now, e6, _, k6⟩ := DataW.trod_int Try.underlying2 h6
    simp only [List.drop_zero, List.drop_succ_cons, List.take_succ_cons, List.take_zero, List.cons.injEq, and_true] at e0 e1 e2 e3 e4 e5 e6
    subst e0 e1 e2 e3 e4 e5 e6
    exact ⟨pick, layer, seq, time, marker, bsA, bsc, bs, now, rfl, k1, k2, k3, b5, cc5, k5 (fits_cons (fits_cons (fits_cons (fits_cons (fits_cons (fits_cons hfa).2).2).2).2).2).1, k6⟩
theorem open_opd {H : Type} {enc : TypeId × Value → H} {w : World} {base : Nat} {spare : Nat → Bool} {held : Bool} {fuel : Nat} {cs : List Value} {x : DataW H × List MemPlace} (h : DataW.trod enc Try.prog w base spare held fuel 44 cs = some x) (hF : Fits Try.prog 44 x.1) :
    ∃ y : OpD, cs = (opC y).toList ∧ Byts (Img.of w) y.A y.bs ∧ y.bs.length ≤ y.c ∧ y.bs.length ≤ 140737488351232 ∧ y.ok := by
  obtain ⟨pick, layer, seq, time, marker, A, c, bs, now, rfl, h1, h2, h3, hb, hc, hl, h6⟩ := open_op0 h hF
  refine ⟨⟨pick, layer, seq, time, marker, A, c, bs, now⟩, rfl, hb, hc, hl, ?_, ?_, ?_, ?_⟩
  · simpa [Lit.wf, IntKind.min, IntKind.max, IntKind.signed, IntKind.bits] using h1
  · simpa [Lit.wf, IntKind.min, IntKind.max, IntKind.signed, IntKind.bits] using h2
  · simpa [Lit.wf, IntKind.min, IntKind.max, IntKind.signed, IntKind.bits] using h3
  · simpa [Lit.wf, IntKind.min, IntKind.max, IntKind.signed, IntKind.bits] using h6
def ElOp (I : Img) (cs : List Value) (y : OpD) : Prop := cs = (opC y).toList ∧ Byts I y.A y.bs ∧ y.bs.length ≤ 140737488351232 ∧ y.ok
theorem ops_of {I : Img} {A : Option Addr} {xs : List OpD} (h : RowsOf I 7 ElOp A xs) : Ops I A xs := fun h0 => by
  obtain ⟨g, o, e, hc⟩ := h h0
  refine ⟨g, o, e, fun i hi => ?_⟩
  obtain ⟨cs, ⟨rfl, hb, hl, hok⟩, _, hcell⟩ := hc i hi
  refine ⟨fun j hj => ?_, hb, hl, hok⟩
  have := hcell j (by simpa using hj)
  rw [this]
  simp [opC, hj]
def ElB (I : Img) (cs : List Value) (u : List UInt8) : Prop := ∃ B c, cs = [.slice B u.length c] ∧ Byts I B u ∧ u.length ≤ 140737488351232
theorem rows_of {I : Img} {A : Option Addr} {us : List (List UInt8)} (h : RowsOf I 1 ElB A us) : Rows I A us ∧ ∀ u ∈ us, u.length ≤ 140737488351232 := by
  refine ⟨fun h0 => ?_, fun u hu => ?_⟩
  · obtain ⟨g, o, e, hc⟩ := h h0
    refine ⟨g, o, e, fun i hi => ?_⟩
    obtain ⟨cs, ⟨B, c, rfl, hB, _⟩, _, hcell⟩ := hc i hi
    have := hcell 0 (by simp)
    rw [Nat.mul_one, Nat.add_zero] at this
    exact ⟨B, c, this, hB⟩
  · obtain ⟨i, hi, rfl⟩ := List.getElem_of_mem hu
    obtain ⟨g, o, e, hc⟩ := h (by omega)
    obtain ⟨cs, ⟨B, c, _, _, hl⟩, _⟩ := hc i hi
    exact hl
end Go.Proofs.Ytaemohkmingnpaa
