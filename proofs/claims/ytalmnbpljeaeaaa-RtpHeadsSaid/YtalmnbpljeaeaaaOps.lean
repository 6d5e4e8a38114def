/- arguments, opened: an extension, a packet. -/
import Derived.Test.YtalmnbpljeaeaaaRtE
import Derived.Test.YtalmnbpljeaeaaaOpen
namespace Go.Proofs.Ytalmnbpljeaeaaa
open Go.ChangeShapes Go.WideShapes Go.ChangeAt Go.RowKit Go.Joins Go.Deep

theorem cellsOf47 : Try.prog.cellsOf 47 = 2 := by kernel_rfl
theorem open_ext0 {H : Type} {enc : TypeId × Value → H} {w : World} {base : Nat} {spare : Nat → Bool} {held : Bool} {fuel : Nat} {cs : List Value} {x : DataW H × List MemPlace} (h : DataW.trod enc Try.prog w base spare held fuel 47 cs = some x) (hF : Fits Try.prog 47 x.1) :
    ∃ (id : Int) (dA : Option Addr) (dc : Nat) (d : List UInt8), cs = [.int .i64 id, .slice dA d.length dc] ∧ (Lit.int .i64 id).wf = true ∧ Byts (Img.of w) dA d ∧ d.length ≤ dc ∧ d.length ≤ 140737488351232 := by
  obtain ⟨xs, n, _, rfl, hl, hlen, hf⟩ := DataW.trod_struct Try.underlying47 h
  rw [cellsOf47] at hl
  match cs, hl, xs, hlen with
  | [c0, c1], _, [y0, y1], _ =>
    have h0 : DataW.trod enc Try.prog w base spare held n 3 (([c0, c1].drop 0).take (Try.prog.cellsOf 3)) = some y0 := hf 0 _ rfl
    have h1 : DataW.trod enc Try.prog w base spare held n 22 (([c0, c1].drop 1).take (Try.prog.cellsOf 22)) = some y1 := hf 1 _ rfl
    rw [show Try.prog.cellsOf 3 = 1 from by kernel_rfl] at h0
    rw [show Try.prog.cellsOf 22 = 1 from by kernel_rfl] at h1
    have hfa := fits_agg Try.underlying47 hF
    obtain ⟨id, e0, _, k0⟩ := DataW.trod_int Try.underlying3 h0
    obtain ⟨dA, dc, d, e1, b1, cc1, k1⟩ := open_byts Try.underlying22 Try.underlying5 (by kernel_rfl) (by kernel_rfl) h1
    simp only [List.drop_zero, List.drop_succ_cons, List.take_succ_cons, List.take_zero, List.cons.injEq, and_true] at e0 e1
    subst e0 e1
    exact ⟨id, dA, dc, d, rfl, k0, b1, cc1, k1 (fits_cons (fits_cons hfa).2).1⟩
def ElX (I : Img) (cs : List Value) (x : XD) : Prop := cs = xC x ∧ Byts I x.A x.d ∧ x.d.length ≤ 140737488351232
def ElU (_ : Img) (cs : List Value) (n : Int) : Prop := cs = [.int .u32 n]
theorem exts_of {I : Img} {A : Option Addr} {xs : List XD} (h : RowsOf I 2 ElX A xs) : Exts I A xs := by
  refine ⟨fun h0 => ?_, fun x hx => ?_⟩
  · rw [xsC_len] at h0
    obtain ⟨g, o, e, hc⟩ := h (by omega)
    refine ⟨g, o, e, fun j hj => ?_⟩
    have hi : j / 2 < xs.length := by rw [xsC_len] at hj; omega
    obtain ⟨cs, ⟨rfl, _, _⟩, _, hcell⟩ := hc (j / 2) hi
    obtain ⟨h1, h2⟩ := xsC_at xs (j / 2) hi
    rcases Nat.mod_two_eq_zero_or_one j with hm | hm
    · have e1 : j / 2 * 2 = j := by omega
      have := hcell 0 (by simp)
      rw [e1] at this h1
      rw [List.getElem?_eq_getElem hj] at h1
      rw [Nat.add_zero] at this
      rw [this, h1]
      rfl
    · have e1 : j / 2 * 2 + 1 = j := by omega
      have := hcell 1 (by simp)
      rw [Nat.add_assoc, e1] at this
      rw [e1, List.getElem?_eq_getElem hj] at h2
      rw [this, h2]
      rfl
  · obtain ⟨i, hi, rfl⟩ := List.getElem_of_mem hx
    obtain ⟨g, o, e, hc⟩ := h (by omega)
    obtain ⟨cs, ⟨_, hB, hl⟩, _⟩ := hc i hi
    exact ⟨hB, hl⟩
theorem u32s_of {I : Img} {A : Option Addr} {cs : List Int} (h : RowsOf I 1 ElU A cs) : Cells I A (u32s cs) := fun h0 => by
  obtain ⟨g, o, e, hc⟩ := h (by rw [u32s_len] at h0; exact h0)
  refine ⟨g, o, e, fun j hj => ?_⟩
  obtain ⟨_, rfl, _, hcell⟩ := hc j (by rw [u32s_len] at hj; exact hj)
  have := hcell 0 (by simp)
  rw [Nat.mul_one, Nat.add_zero] at this
  rw [this]
  simp [u32s]
theorem cellsOf28 : Try.prog.cellsOf 28 = 9 := by kernel_rfl
theorem open_pk {H : Type} {enc : TypeId × Value → H} {w : World} {base : Nat} {held : Bool} {fuel : Nat} {cs : List Value} {x : DataW H × List MemPlace} (h : DataW.trod enc Try.prog w base (fun _ => true) held fuel 28 cs = some x) (hF : Fits Try.prog 28 x.1) :
    ∃ (marker : Bool) (typ : Int) (seq : Int) (time : Int) (source : Int) (cA : Option Addr) (cc : Nat) (us : List Int) (eA : Option Addr) (ec : Nat) (xs : List XD) (bsA : Option Addr) (bsc : Nat) (bs : List UInt8) (pad : Int), cs = [.bool marker, .int .i64 typ, .int .u16 seq, .int .u32 time, .int .u32 source, .slice cA us.length cc, .slice eA xs.length ec, .slice bsA bs.length bsc, .int .i64 pad] ∧ (Lit.int .i64 typ).wf = true ∧ (Lit.int .u16 seq).wf = true ∧ (Lit.int .u32 time).wf = true ∧ (Lit.int .u32 source).wf = true ∧ Cells (Img.of w) cA (u32s us) ∧ us.length * 4 ≤ 140737488351232 ∧ Exts (Img.of w) eA xs ∧ xs.length * 32 ≤ 140737488351232 ∧ Byts (Img.of w) bsA bs ∧ bs.length ≤ bsc ∧ bs.length ≤ 140737488351232 ∧ (Lit.int .i64 pad).wf = true := by
  obtain ⟨xs, n, _, rfl, hl, hlen, hf⟩ := DataW.trod_struct Try.underlying28 h
  rw [cellsOf28] at hl
  match cs, hl, xs, hlen with
  | [c0, c1, c2, c3, c4, c5, c6, c7, c8], _, [y0, y1, y2, y3, y4, y5, y6, y7, y8], _ =>
    have h0 : DataW.trod enc Try.prog w base (fun _ => true) held n 4 (([c0, c1, c2, c3, c4, c5, c6, c7, c8].drop 0).take (Try.prog.cellsOf 4)) = some y0 := hf 0 _ rfl
    have h1 : DataW.trod enc Try.prog w base (fun _ => true) held n 3 (([c0, c1, c2, c3, c4, c5, c6, c7, c8].drop 1).take (Try.prog.cellsOf 3)) = some y1 := hf 1 _ rfl
    have h2 : DataW.trod enc Try.prog w base (fun _ => true) held n 23 (([c0, c1, c2, c3, c4, c5, c6, c7, c8].drop 2).take (Try.prog.cellsOf 23)) = some y2 := hf 2 _ rfl
    have h3 : DataW.trod enc Try.prog w base (fun _ => true) held n 24 (([c0, c1, c2, c3, c4, c5, c6, c7, c8].drop 3).take (Try.prog.cellsOf 24)) = some y3 := hf 3 _ rfl
    have h4 : DataW.trod enc Try.prog w base (fun _ => true) held n 24 (([c0, c1, c2, c3, c4, c5, c6, c7, c8].drop 4).take (Try.prog.cellsOf 24)) = some y4 := hf 4 _ rfl
    have h5 : DataW.trod enc Try.prog w base (fun _ => true) held n 25 (([c0, c1, c2, c3, c4, c5, c6, c7, c8].drop 5).take (Try.prog.cellsOf 25)) = some y5 := hf 5 _ rfl
    have h6 : DataW.trod enc Try.prog w base (fun _ => true) held n 26 (([c0, c1, c2, c3, c4, c5, c6, c7, c8].drop 6).take (Try.prog.cellsOf 26)) = some y6 := hf 6 _ rfl
    have h7 : DataW.trod enc Try.prog w base (fun _ => true) held n 22 (([c0, c1, c2, c3, c4, c5, c6, c7, c8].drop 7).take (Try.prog.cellsOf 22)) = some y7 := hf 7 _ rfl
    have h8 : DataW.trod enc Try.prog w base (fun _ => true) held n 3 (([c0, c1, c2, c3, c4, c5, c6, c7, c8].drop 8).take (Try.prog.cellsOf 3)) = some y8 := hf 8 _ rfl
    rw [show Try.prog.cellsOf 4 = 1 from by kernel_rfl] at h0
    rw [show Try.prog.cellsOf 3 = 1 from by kernel_rfl] at h1
    rw [show Try.prog.cellsOf 23 = 1 from by kernel_rfl] at h2
    rw [show Try.prog.cellsOf 24 = 1 from by kernel_rfl] at h3
    rw [show Try.prog.cellsOf 24 = 1 from by kernel_rfl] at h4
    rw [show Try.prog.cellsOf 25 = 1 from by kernel_rfl] at h5
    rw [show Try.prog.cellsOf 26 = 1 from by kernel_rfl] at h6
    rw [show Try.prog.cellsOf 22 = 1 from by kernel_rfl] at h7
    rw [show Try.prog.cellsOf 3 = 1 from by kernel_rfl] at h8
    have hfa := fits_agg Try.underlying28 hF
    obtain ⟨marker, e0, _⟩ := DataW.trod_bool Try.underlying4 h0
    obtain ⟨typ, e1, _, k1⟩ := DataW.trod_int Try.underlying3 h1
    obtain ⟨seq, e2, _, k2⟩ := DataW.trod_int Try.underlying23 h2
    obtain ⟨time, e3, _, k3⟩ := DataW.trod_int Try.underlying24 h3
    obtain ⟨source, e4, _, k4⟩ := DataW.trod_int Try.underlying24 h4
    obtain ⟨cA, cc, us, e5, hR5, kk5, _, _⟩ := open_rows (El := ElU) (size := 1) (by_ := 4) Try.underlying25 (by kernel_rfl) (by kernel_rfl) (by decide) (by decide) (fun f cs x h _ => by
      obtain ⟨n, e, _, _⟩ := DataW.trod_int Try.underlying24 h
      exact ⟨n, e⟩) h5 (fits_cons (fits_cons (fits_cons (fits_cons (fits_cons (fits_cons hfa).2).2).2).2).2).1
    obtain ⟨eA, ec, xs, e6, hR6, kk6, _, _⟩ := open_rows (El := ElX) (size := 2) (by_ := 32) Try.underlying26 (by kernel_rfl) (by kernel_rfl) (by decide) (by decide) (fun f cs x h hF => by
      obtain ⟨id, A, c, d, e, _, hB, _, hl⟩ := open_ext0 h hF
      exact ⟨⟨id, A, c, d⟩, e, hB, hl⟩) h6 (fits_cons (fits_cons (fits_cons (fits_cons (fits_cons (fits_cons (fits_cons hfa).2).2).2).2).2).2).1
    obtain ⟨bsA, bsc, bs, e7, b7, cc7, k7⟩ := open_byts Try.underlying22 Try.underlying5 (by kernel_rfl) (by kernel_rfl) h7
    obtain ⟨pad, e8, _, k8⟩ := DataW.trod_int Try.underlying3 h8
    simp only [List.drop_zero, List.drop_succ_cons, List.take_succ_cons, List.take_zero, List.cons.injEq, and_true] at e0 e1 e2 e3 e4 e5 e6 e7 e8
    subst e0 e1 e2 e3 e4 e5 e6 e7 e8
    exact ⟨marker, typ, seq, time, source, cA, cc, us, eA, ec, xs, bsA, bsc, bs, pad, rfl, k1, k2, k3, k4, u32s_of hR5, kk5, exts_of hR6, kk6, b7, cc7, k7 (fits_cons (fits_cons (fits_cons (fits_cons (fits_cons (fits_cons (fits_cons (fits_cons hfa).2).2).2).2).2).2).2).1, k8⟩
end Go.Proofs.Ytalmnbpljeaeaaa
