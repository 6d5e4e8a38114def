/- arguments, opened: packets of the document's. -/
import Derived.Test.YtddopbbmgpnjjaaRdK
import Derived.Test.YtddopbbmgpnjjaaOpen
namespace Go.Proofs.Ytddopbbmgpnjjaa
open Go.ChangeShapes Go.WideShapes Go.ChangeAt Go.RowKit Go.Joins Go.Deep

theorem flatOf {α : Type} {I : Img} {s : Nat} {El : Img → List Value → α → Prop} {f : α → List Value} {A : Option Addr} {ys : List α} (h : RowsOf I s El A ys) (hf : ∀ cs y, El I cs y → cs = f y) (hs : ∀ x, (f x).length = s) (h0 : 0 < s) : Cells I A (flat f ys) := by
  intro hl
  have hfl := flat_len hs ys
  have hy : 0 < ys.length := by
    rcases Nat.eq_zero_or_pos ys.length with e | e
    · rw [hfl, e] at hl; omega
    · exact e
  obtain ⟨g, o, e, hc⟩ := h hy
  refine ⟨g, o, e, fun j hj => ?_⟩
  have hd : j / s * s + j % s = j := by have := Nat.div_add_mod j s; rw [Nat.mul_comm] at this; exact this
  have hi : j / s < ys.length := by rw [hfl] at hj; exact Nat.div_lt_of_lt_mul (by rw [Nat.mul_comm]; exact hj)
  have hr : j % s < s := Nat.mod_lt _ h0
  obtain ⟨cs, hel, hcl, hat⟩ := hc (j / s) hi
  have hcf := hf _ _ hel
  subst hcf
  have h1 := hat (j % s) (by rw [hs]; exact hr)
  have h2 := flat_at hs ys (j / s) (j % s) hi hr
  rw [Nat.add_assoc, hd] at h1
  rw [hd, List.getElem?_eq_getElem hj, List.getElem?_eq_getElem (by rw [hs]; exact hr)] at h2
  rw [h1]
  exact h2.symm
theorem elOf {α : Type} {I : Img} {s : Nat} {El : Img → List Value → α → Prop} {A : Option Addr} {ys : List α} (h : RowsOf I s El A ys) : ∀ y ∈ ys, ∃ cs, El I cs y := by
  intro y hy
  obtain ⟨i, hi, rfl⟩ := List.getElem_of_mem hy
  obtain ⟨g, o, e, hc⟩ := h (by omega)
  obtain ⟨cs, hel, _⟩ := hc i hi
  exact ⟨cs, hel⟩
def ElN (k : IntKind) (_ : Img) (cs : List Value) (x : Int) : Prop := cs = [.int k x] ∧ (Lit.int k x).wf = true
def ElR (_ : Img) (cs : List Value) (x : Rp) : Prop := cs = repC x ∧ ((Lit.int .u32 x.src).wf = true ∧ (Lit.int .u8 x.lost).wf = true ∧ (Lit.int .u32 x.total).wf = true ∧ (Lit.int .u32 x.high).wf = true ∧ (Lit.int .u32 x.jit).wf = true ∧ (Lit.int .u32 x.last).wf = true ∧ (Lit.int .u32 x.delay).wf = true)
def ElW (_ : Img) (cs : List Value) (x : Wn) : Prop := cs = wnC x ∧ ((Lit.int .u32 x.src).wf = true ∧ (Lit.int .u8 x.seq).wf = true)
theorem wf32 {x : Int} (h : (Lit.int .u32 x).wf = true) : 0 ≤ x ∧ x ≤ 4294967295 := by simpa [Lit.wf, IntKind.min, IntKind.max, IntKind.signed, IntKind.bits] using h
theorem wf16 {x : Int} (h : (Lit.int .u16 x).wf = true) : 0 ≤ x ∧ x ≤ 65535 := by simpa [Lit.wf, IntKind.min, IntKind.max, IntKind.signed, IntKind.bits] using h
theorem wf8 {x : Int} (h : (Lit.int .u8 x).wf = true) : 0 ≤ x ∧ x ≤ 255 := by simpa [Lit.wf, IntKind.min, IntKind.max, IntKind.signed, IntKind.bits] using h
theorem wf64 {x : Int} (h : (Lit.int .u64 x).wf = true) : 0 ≤ x ∧ x ≤ 18446744073709551615 := by simpa [Lit.wf, IntKind.min, IntKind.max, IntKind.signed, IntKind.bits] using h
theorem cellsOf64 : Try.prog.cellsOf 64 = 7 := by kernel_rfl
set_option maxRecDepth 8000 in
theorem open_rp0 {H : Type} {enc : TypeId × Value → H} {w : World} {base : Nat} {spare : Nat → Bool} {held : Bool} {fuel : Nat} {cs : List Value} {x : DataW H × List MemPlace} (h : DataW.trod enc Try.prog w base spare held fuel 64 cs = some x) (hF : Fits Try.prog 64 x.1) :
    ∃ (a : Int) (b : Int) (c : Int) (d : Int) (e : Int) (f : Int) (g : Int), cs = [.int .u32 a, .int .u8 b, .int .u32 c, .int .u32 d, .int .u32 e, .int .u32 f, .int .u32 g] ∧ (Lit.int .u32 a).wf = true ∧ (Lit.int .u8 b).wf = true ∧ (Lit.int .u32 c).wf = true ∧ (Lit.int .u32 d).wf = true ∧ (Lit.int .u32 e).wf = true ∧ (Lit.int .u32 f).wf = true ∧ (Lit.int .u32 g).wf = true := by
  obtain ⟨xs, n, _, rfl, hl, hlen, hf⟩ := DataW.trod_struct Try.underlying64 h
  rw [cellsOf64] at hl
  match cs, hl, xs, hlen with
  | [c0, c1, c2, c3, c4, c5, c6], _, [y0, y1, y2, y3, y4, y5, y6], _ =>
    have h0 : DataW.trod enc Try.prog w base spare held n 43 (([c0, c1, c2, c3, c4, c5, c6].drop 0).take (Try.prog.cellsOf 43)) = some y0 := hf 0 _ rfl
    have h1 : DataW.trod enc Try.prog w base spare held n 5 (([c0, c1, c2, c3, c4, c5, c6].drop 1).take (Try.prog.cellsOf 5)) = some y1 := hf 1 _ rfl
    have h2 : DataW.trod enc Try.prog w base spare held n 43 (([c0, c1, c2, c3, c4, c5, c6].drop 2).take (Try.prog.cellsOf 43)) = some y2 := hf 2 _ rfl
    have h3 : DataW.trod enc Try.prog w base spare held n 43 (([c0, c1, c2, c3, c4, c5, c6].drop 3).take (Try.prog.cellsOf 43)) = some y3 := hf 3 _ rfl
    have h4 : DataW.trod enc Try.prog w base spare held n 43 (([c0, c1, c2, c3, c4, c5, c6].drop 4).take (Try.prog.cellsOf 43)) = some y4 := hf 4 _ rfl
    have h5 : DataW.trod enc Try.prog w base spare held n 43 (([c0, c1, c2, c3, c4, c5, c6].drop 5).take (Try.prog.cellsOf 43)) = some y5 := hf 5 _ rfl
    have h6 : DataW.trod enc Try.prog w base spare held n 43 (([c0, c1, c2, c3, c4, c5, c6].drop 6).take (Try.prog.cellsOf 43)) = some y6 := hf 6 _ rfl
    rw [show Try.prog.cellsOf 43 = 1 from by kernel_rfl] at h0
    rw [show Try.prog.cellsOf 5 = 1 from by kernel_rfl] at h1
    rw [show Try.prog.cellsOf 43 = 1 from by kernel_rfl] at h2
    rw [show Try.prog.cellsOf 43 = 1 from by kernel_rfl] at h3
    rw [show Try.prog.cellsOf 43 = 1 from by kernel_rfl] at h4
    rw [show Try.prog.cellsOf 43 = 1 from by kernel_rfl] at h5
    rw [show Try.prog.cellsOf 43 = 1 from by kernel_rfl] at h6
    have hfa := fits_agg Try.underlying64 hF
    obtain ⟨a, e0, _, k0⟩ := DataW.trod_int Try.underlying43 h0
    obtain ⟨b, e1, _, k1⟩ := DataW.trod_int Try.underlying5 h1
    obtain ⟨c, e2, _, k2⟩ := DataW.trod_int Try.underlying43 h2
    obtain ⟨d, e3, _, k3⟩ := DataW.trod_int Try.underlying43 h3
    obtain ⟨e, e4, _, k4⟩ := DataW.trod_int Try.underlying43 h4
    obtain ⟨f, e5, _, k5⟩ := DataW.trod_int Try.underlying43 h5
    obtain ⟨g, e6, _, k6⟩ := DataW.trod_int Try.underlying43 h6
    simp only [List.drop_zero, List.drop_succ_cons, List.take_succ_cons, List.take_zero, List.cons.injEq, and_true] at e0 e1 e2 e3 e4 e5 e6
    subst e0 e1 e2 e3 e4 e5 e6
    exact ⟨a, b, c, d, e, f, g, rfl, k0, k1, k2, k3, k4, k5, k6⟩
theorem cellsOf67 : Try.prog.cellsOf 67 = 2 := by kernel_rfl
set_option maxRecDepth 8000 in
theorem open_wn0 {H : Type} {enc : TypeId × Value → H} {w : World} {base : Nat} {spare : Nat → Bool} {held : Bool} {fuel : Nat} {cs : List Value} {x : DataW H × List MemPlace} (h : DataW.trod enc Try.prog w base spare held fuel 67 cs = some x) (hF : Fits Try.prog 67 x.1) :
    ∃ (a : Int) (b : Int), cs = [.int .u32 a, .int .u8 b] ∧ (Lit.int .u32 a).wf = true ∧ (Lit.int .u8 b).wf = true := by
  obtain ⟨xs, n, _, rfl, hl, hlen, hf⟩ := DataW.trod_struct Try.underlying67 h
  rw [cellsOf67] at hl
  match cs, hl, xs, hlen with
  | [c0, c1], _, [y0, y1], _ =>
    have h0 : DataW.trod enc Try.prog w base spare held n 43 (([c0, c1].drop 0).take (Try.prog.cellsOf 43)) = some y0 := hf 0 _ rfl
    have h1 : DataW.trod enc Try.prog w base spare held n 5 (([c0, c1].drop 1).take (Try.prog.cellsOf 5)) = some y1 := hf 1 _ rfl
    rw [show Try.prog.cellsOf 43 = 1 from by kernel_rfl] at h0
    rw [show Try.prog.cellsOf 5 = 1 from by kernel_rfl] at h1
    have hfa := fits_agg Try.underlying67 hF
    obtain ⟨a, e0, _, k0⟩ := DataW.trod_int Try.underlying43 h0
    obtain ⟨b, e1, _, k1⟩ := DataW.trod_int Try.underlying5 h1
    simp only [List.drop_zero, List.drop_succ_cons, List.take_succ_cons, List.take_zero, List.cons.injEq, and_true] at e0 e1
    subst e0 e1
    exact ⟨a, b, rfl, k0, k1⟩
theorem cellsOf56 : Try.prog.cellsOf 56 = 16 := by kernel_rfl
set_option maxRecDepth 8000 in
theorem open_pk0 {H : Type} {enc : TypeId × Value → H} {w : World} {base : Nat} {held : Bool} {fuel : Nat} {cs : List Value} {x : DataW H × List MemPlace} (h : DataW.trod enc Try.prog w base (fun _ => true) held fuel 56 cs = some x) (hF : Fits Try.prog 56 x.1) :
    ∃ (kind : Int) (sender : Int) (media : Int) (ntp : Int) (rtp : Int) (pkts : Int) (octs : Int) (repsA : Option Addr) (repsc : Nat) (reps : List Rp) (name : ByteArray) (srcsA : Option Addr) (srcsc : Nat) (srcs : List Int) (seqsA : Option Addr) (seqsc : Nat) (seqs : List Int) (pbase : Int) (ref : Int) (count : Int) (arrsA : Option Addr) (arrsc : Nat) (arrs : List Int) (wantsA : Option Addr) (wantsc : Nat) (wants : List Wn), cs = [.int .i64 kind, .int .u32 sender, .int .u32 media, .int .u64 ntp, .int .u32 rtp, .int .u32 pkts, .int .u32 octs, .slice repsA reps.length repsc, .string name, .slice srcsA srcs.length srcsc, .slice seqsA seqs.length seqsc, .int .u16 pbase, .int .u32 ref, .int .u8 count, .slice arrsA arrs.length arrsc, .slice wantsA wants.length wantsc] ∧ (Lit.int .i64 kind).wf = true ∧ (Lit.int .u32 sender).wf = true ∧ (Lit.int .u32 media).wf = true ∧ (Lit.int .u64 ntp).wf = true ∧ (Lit.int .u32 rtp).wf = true ∧ (Lit.int .u32 pkts).wf = true ∧ (Lit.int .u32 octs).wf = true ∧ RowsOf (Img.of w) 7 ElR repsA reps ∧ reps.length * 28 ≤ 140737488351232 ∧ reps.length ≤ repsc ∧ name.size ≤ maxLen ∧ RowsOf (Img.of w) 1 (ElN .u32) srcsA srcs ∧ srcs.length * 4 ≤ 140737488351232 ∧ srcs.length ≤ srcsc ∧ RowsOf (Img.of w) 1 (ElN .u16) seqsA seqs ∧ seqs.length * 2 ≤ 140737488351232 ∧ seqs.length ≤ seqsc ∧ (Lit.int .u16 pbase).wf = true ∧ (Lit.int .u32 ref).wf = true ∧ (Lit.int .u8 count).wf = true ∧ RowsOf (Img.of w) 1 (ElN .i64) arrsA arrs ∧ arrs.length * 8 ≤ 140737488351232 ∧ arrs.length ≤ arrsc ∧ RowsOf (Img.of w) 2 ElW wantsA wants ∧ wants.length * 8 ≤ 140737488351232 ∧ wants.length ≤ wantsc := by
  obtain ⟨xs, n, _, rfl, hl, hlen, hf⟩ := DataW.trod_struct Try.underlying56 h
  rw [cellsOf56] at hl
  match cs, hl, xs, hlen with
  | [c0, c1, c2, c3, c4, c5, c6, c7, c8, c9, c10, c11, c12, c13, c14, c15], _, [y0, y1, y2, y3, y4, y5, y6, y7, y8, y9, y10, y11, y12, y13, y14, y15], _ =>
    have h0 : DataW.trod enc Try.prog w base (fun _ => true) held n 3 (([c0, c1, c2, c3, c4, c5, c6, c7, c8, c9, c10, c11, c12, c13, c14, c15].drop 0).take (Try.prog.cellsOf 3)) = some y0 := hf 0 _ rfl
    have h1 : DataW.trod enc Try.prog w base (fun _ => true) held n 43 (([c0, c1, c2, c3, c4, c5, c6, c7, c8, c9, c10, c11, c12, c13, c14, c15].drop 1).take (Try.prog.cellsOf 43)) = some y1 := hf 1 _ rfl
    have h2 : DataW.trod enc Try.prog w base (fun _ => true) held n 43 (([c0, c1, c2, c3, c4, c5, c6, c7, c8, c9, c10, c11, c12, c13, c14, c15].drop 2).take (Try.prog.cellsOf 43)) = some y2 := hf 2 _ rfl
    have h3 : DataW.trod enc Try.prog w base (fun _ => true) held n 45 (([c0, c1, c2, c3, c4, c5, c6, c7, c8, c9, c10, c11, c12, c13, c14, c15].drop 3).take (Try.prog.cellsOf 45)) = some y3 := hf 3 _ rfl
    have h4 : DataW.trod enc Try.prog w base (fun _ => true) held n 43 (([c0, c1, c2, c3, c4, c5, c6, c7, c8, c9, c10, c11, c12, c13, c14, c15].drop 4).take (Try.prog.cellsOf 43)) = some y4 := hf 4 _ rfl
    have h5 : DataW.trod enc Try.prog w base (fun _ => true) held n 43 (([c0, c1, c2, c3, c4, c5, c6, c7, c8, c9, c10, c11, c12, c13, c14, c15].drop 5).take (Try.prog.cellsOf 43)) = some y5 := hf 5 _ rfl
    have h6 : DataW.trod enc Try.prog w base (fun _ => true) held n 43 (([c0, c1, c2, c3, c4, c5, c6, c7, c8, c9, c10, c11, c12, c13, c14, c15].drop 6).take (Try.prog.cellsOf 43)) = some y6 := hf 6 _ rfl
    have h7 : DataW.trod enc Try.prog w base (fun _ => true) held n 53 (([c0, c1, c2, c3, c4, c5, c6, c7, c8, c9, c10, c11, c12, c13, c14, c15].drop 7).take (Try.prog.cellsOf 53)) = some y7 := hf 7 _ rfl
    have h8 : DataW.trod enc Try.prog w base (fun _ => true) held n 9 (([c0, c1, c2, c3, c4, c5, c6, c7, c8, c9, c10, c11, c12, c13, c14, c15].drop 8).take (Try.prog.cellsOf 9)) = some y8 := hf 8 _ rfl
    have h9 : DataW.trod enc Try.prog w base (fun _ => true) held n 47 (([c0, c1, c2, c3, c4, c5, c6, c7, c8, c9, c10, c11, c12, c13, c14, c15].drop 9).take (Try.prog.cellsOf 47)) = some y9 := hf 9 _ rfl
    have h10 : DataW.trod enc Try.prog w base (fun _ => true) held n 44 (([c0, c1, c2, c3, c4, c5, c6, c7, c8, c9, c10, c11, c12, c13, c14, c15].drop 10).take (Try.prog.cellsOf 44)) = some y10 := hf 10 _ rfl
    have h11 : DataW.trod enc Try.prog w base (fun _ => true) held n 42 (([c0, c1, c2, c3, c4, c5, c6, c7, c8, c9, c10, c11, c12, c13, c14, c15].drop 11).take (Try.prog.cellsOf 42)) = some y11 := hf 11 _ rfl
    have h12 : DataW.trod enc Try.prog w base (fun _ => true) held n 43 (([c0, c1, c2, c3, c4, c5, c6, c7, c8, c9, c10, c11, c12, c13, c14, c15].drop 12).take (Try.prog.cellsOf 43)) = some y12 := hf 12 _ rfl
    have h13 : DataW.trod enc Try.prog w base (fun _ => true) held n 5 (([c0, c1, c2, c3, c4, c5, c6, c7, c8, c9, c10, c11, c12, c13, c14, c15].drop 13).take (Try.prog.cellsOf 5)) = some y13 := hf 13 _ rfl
    have h14 : DataW.trod enc Try.prog w base (fun _ => true) held n 48 (([c0, c1, c2, c3, c4, c5, c6, c7, c8, c9, c10, c11, c12, c13, c14, c15].drop 14).take (Try.prog.cellsOf 48)) = some y14 := hf 14 _ rfl
    have h15 : DataW.trod enc Try.prog w base (fun _ => true) held n 54 (([c0, c1, c2, c3, c4, c5, c6, c7, c8, c9, c10, c11, c12, c13, c14, c15].drop 15).take (Try.prog.cellsOf 54)) = some y15 := hf 15 _ rfl
    rw [show Try.prog.cellsOf 3 = 1 from by kernel_rfl] at h0
    rw [show Try.prog.cellsOf 43 = 1 from by kernel_rfl] at h1
    rw [show Try.prog.cellsOf 43 = 1 from by kernel_rfl] at h2
    rw [show Try.prog.cellsOf 45 = 1 from by kernel_rfl] at h3
    rw [show Try.prog.cellsOf 43 = 1 from by kernel_rfl] at h4
    rw [show Try.prog.cellsOf 43 = 1 from by kernel_rfl] at h5
    rw [show Try.prog.cellsOf 43 = 1 from by kernel_rfl] at h6
    rw [show Try.prog.cellsOf 53 = 1 from by kernel_rfl] at h7
    rw [show Try.prog.cellsOf 9 = 1 from by kernel_rfl] at h8
    rw [show Try.prog.cellsOf 47 = 1 from by kernel_rfl] at h9
    rw [show Try.prog.cellsOf 44 = 1 from by kernel_rfl] at h10
    rw [show Try.prog.cellsOf 42 = 1 from by kernel_rfl] at h11
    rw [show Try.prog.cellsOf 43 = 1 from by kernel_rfl] at h12
    rw [show Try.prog.cellsOf 5 = 1 from by kernel_rfl] at h13
    rw [show Try.prog.cellsOf 48 = 1 from by kernel_rfl] at h14
    rw [show Try.prog.cellsOf 54 = 1 from by kernel_rfl] at h15
    have hfa := fits_agg Try.underlying56 hF
    obtain ⟨kind, e0, _, k0⟩ := DataW.trod_int Try.underlying3 h0
    obtain ⟨sender, e1, _, k1⟩ := DataW.trod_int Try.underlying43 h1
    obtain ⟨media, e2, _, k2⟩ := DataW.trod_int Try.underlying43 h2
    obtain ⟨ntp, e3, _, k3⟩ := DataW.trod_int Try.underlying45 h3
    obtain ⟨rtp, e4, _, k4⟩ := DataW.trod_int Try.underlying43 h4
    obtain ⟨pkts, e5, _, k5⟩ := DataW.trod_int Try.underlying43 h5
    obtain ⟨octs, e6, _, k6⟩ := DataW.trod_int Try.underlying43 h6
    obtain ⟨repsA, repsc, reps, e7, hR7, hl7, _, hc7⟩ := open_rows (El := ElR) (size := 7) (by_ := 28) Try.underlying53 (by kernel_rfl) (by kernel_rfl) (by decide) (by decide) (fun f cs x h hF => by
      obtain ⟨a, b, c, d, e, f, g, rfl, k⟩ := open_rp0 h hF
      exact ⟨⟨a, b, c, d, e, f, g⟩, rfl, k⟩) h7 (fits_cons (fits_cons (fits_cons (fits_cons (fits_cons (fits_cons (fits_cons (fits_cons hfa).2).2).2).2).2).2).2).1
    obtain ⟨name, e8, d8, k8⟩ := DataW.trod_string Try.underlying9 h8
    obtain ⟨srcsA, srcsc, srcs, e9, hR9, hl9, _, hc9⟩ := open_rows (El := (ElN .u32)) (size := 1) (by_ := 4) Try.underlying47 (by kernel_rfl) (by kernel_rfl) (by decide) (by decide) (fun f cs x h _ => by
      obtain ⟨n, e, _, k⟩ := DataW.trod_int Try.underlying43 h
      exact ⟨n, e, k⟩) h9 (fits_cons (fits_cons (fits_cons (fits_cons (fits_cons (fits_cons (fits_cons (fits_cons (fits_cons (fits_cons hfa).2).2).2).2).2).2).2).2).2).1
    obtain ⟨seqsA, seqsc, seqs, e10, hR10, hl10, _, hc10⟩ := open_rows (El := (ElN .u16)) (size := 1) (by_ := 2) Try.underlying44 (by kernel_rfl) (by kernel_rfl) (by decide) (by decide) (fun f cs x h _ => by
      obtain ⟨n, e, _, k⟩ := DataW.trod_int Try.underlying42 h
      exact ⟨n, e, k⟩) h10 (fits_cons (fits_cons (fits_cons (fits_cons (fits_cons (fits_cons (fits_cons (fits_cons (fits_cons (fits_cons (fits_cons hfa).2).2).2).2).2).2).2).2).2).2).1
    obtain ⟨pbase, e11, _, k11⟩ := DataW.trod_int Try.underlying42 h11
    obtain ⟨ref, e12, _, k12⟩ := DataW.trod_int Try.underlying43 h12
    obtain ⟨count, e13, _, k13⟩ := DataW.trod_int Try.underlying5 h13
    obtain ⟨arrsA, arrsc, arrs, e14, hR14, hl14, _, hc14⟩ := open_rows (El := (ElN .i64)) (size := 1) (by_ := 8) Try.underlying48 (by kernel_rfl) (by kernel_rfl) (by decide) (by decide) (fun f cs x h _ => by
      obtain ⟨n, e, _, k⟩ := DataW.trod_int Try.underlying3 h
      exact ⟨n, e, k⟩) h14 (fits_cons (fits_cons (fits_cons (fits_cons (fits_cons (fits_cons (fits_cons (fits_cons (fits_cons (fits_cons (fits_cons (fits_cons (fits_cons (fits_cons (fits_cons hfa).2).2).2).2).2).2).2).2).2).2).2).2).2).2).1
    obtain ⟨wantsA, wantsc, wants, e15, hR15, hl15, _, hc15⟩ := open_rows (El := ElW) (size := 2) (by_ := 8) Try.underlying54 (by kernel_rfl) (by kernel_rfl) (by decide) (by decide) (fun f cs x h hF => by
      obtain ⟨a, b, rfl, k⟩ := open_wn0 h hF
      exact ⟨⟨a, b⟩, rfl, k⟩) h15 (fits_cons (fits_cons (fits_cons (fits_cons (fits_cons (fits_cons (fits_cons (fits_cons (fits_cons (fits_cons (fits_cons (fits_cons (fits_cons (fits_cons (fits_cons (fits_cons hfa).2).2).2).2).2).2).2).2).2).2).2).2).2).2).2).1
    simp only [List.drop_zero, List.drop_succ_cons, List.take_succ_cons, List.take_zero, List.cons.injEq, and_true] at e0 e1 e2 e3 e4 e5 e6 e7 e8 e9 e10 e11 e12 e13 e14 e15
    subst e0 e1 e2 e3 e4 e5 e6 e7 e8 e9 e10 e11 e12 e13 e14 e15
    exact ⟨kind, sender, media, ntp, rtp, pkts, octs, repsA, repsc, reps, name, srcsA, srcsc, srcs, seqsA, seqsc, seqs, pbase, ref, count, arrsA, arrsc, arrs, wantsA, wantsc, wants, rfl, k0, k1, k2, k3, k4, k5, k6, hR7, hl7, hc7, k8, hR9, hl9, hc9, hR10, hl10, hc10, k11, k12, k13, hR14, hl14, hc14, hR15, hl15, hc15⟩
def ElP (I : Img) (cs : List Value) (x : Pk × Vs) : Prop := cs = pvC x ∧ PkIn I x.1 x.2 ∧ PkRaw x.1
theorem open_pk {H : Type} {enc : TypeId × Value → H} {w : World} {base : Nat} {held : Bool} {fuel : Nat} {cs : List Value} {x : DataW H × List MemPlace} (h : DataW.trod enc Try.prog w base (fun _ => true) held fuel 56 cs = some x) (hF : Fits Try.prog 56 x.1) :
    ∃ y : Pk × Vs, ElP (Img.of w) cs y := by
  obtain ⟨kind, sender, media, ntp, rtp, pkts, octs, rA, rc, reps, name, sA, sc, srcs, qA, qc, seqs, pbase, ref, count, aA, ac, arrs, wA, wc, wants, rfl, _, k1, k2, k3, k4, k5, k6, hr, lr, cr, hn, hs, ls, cs, hq, lq, cq, kb, kr, kc, ha, la, ca, hw, lw, cw⟩ := open_pk0 h hF
  refine ⟨(⟨kind, sender, media, ntp, rtp, pkts, octs, reps, name, srcs, seqs, pbase, ref, count, arrs, wants⟩, ⟨.slice rA reps.length rc, .slice sA srcs.length sc, .slice qA seqs.length qc, .slice aA arrs.length ac, .slice wA wants.length wc⟩), rfl, ⟨⟨rA, rc, rfl, flatOf hr (fun _ _ h => h.1) (fun _ => rfl) (by decide), cr⟩, ⟨sA, sc, rfl, flatOf hs (fun _ _ h => h.1) (fun _ => rfl) (by decide), cs⟩, ⟨qA, qc, rfl, flatOf hq (fun _ _ h => h.1) (fun _ => rfl) (by decide), cq⟩, ⟨aA, ac, rfl, flatOf ha (fun _ _ h => h.1) (fun _ => rfl) (by decide), ca⟩, ⟨wA, wc, rfl, flatOf hw (fun _ _ h => h.1) (fun _ => rfl) (by decide), cw⟩⟩, ?_⟩
  refine ⟨wf32 k1, wf32 k2, wf64 k3, wf32 k4, wf32 k5, wf32 k6, fun x hx => ?_, fun x hx => ?_, fun x hx => ?_, wf16 kb, wf32 kr, wf8 kc, fun x hx => ?_, by show reps.length ≤ _; omega, by show srcs.length ≤ _; omega, by show seqs.length ≤ _; omega, by show arrs.length ≤ _; omega, by show wants.length ≤ _; omega, hn, lr, ls, lq, la, lw⟩
  · obtain ⟨_, _, j1, j2, j3, j4, j5, j6, j7⟩ := elOf hr x hx
    have j1 := wf32 j1; have j2 := wf8 j2; have j3 := wf32 j3; have j4 := wf32 j4; have j5 := wf32 j5; have j6 := wf32 j6; have j7 := wf32 j7
    exact ⟨by omega, by omega, by omega, by omega, by omega, by omega, by omega⟩
  · obtain ⟨_, _, j1⟩ := elOf hs x hx
    exact wf32 j1
  · obtain ⟨_, _, j1⟩ := elOf hq x hx
    exact wf16 j1
  · obtain ⟨_, _, j1, j2⟩ := elOf hw x hx
    exact ⟨wf32 j1, wf8 j2⟩
theorem pks_of {I : Img} {A : Option Addr} {ps : List (Pk × Vs)} (h : RowsOf I 16 ElP A ps) (hl : ps.length * 192 ≤ 140737488351232) : Pks I A ps :=
  ⟨flatOf h (fun _ _ h => h.1) (fun _ => rfl) (by decide), fun x hx => by obtain ⟨_, _, h2⟩ := elOf h x hx; exact h2, by omega⟩
end Go.Proofs.Ytddopbbmgpnjjaa
