import Derived.Test.YtpfacfolocjidaaOMsg
import Derived.Test.YtpfacfolocjidaaPl
import Derived.Deep.Slices
namespace Go.Proofs.Ytpfacfolocjidaa
open Go.ChangeShapes Go.WideShapes Go.ChangeAt Go.RowKit Go.Joins Go.Deep

theorem cells40 : Try.prog.cellsOf 40 = 5 := by kernel_rfl
theorem cells4 : Try.prog.cellsOf 4 = 1 := by kernel_rfl
theorem cells9 : Try.prog.cellsOf 9 = 1 := by kernel_rfl
theorem bytes40 : Try.prog.bytesOf 40 = 56 := by kernel_rfl
section
variable {H : Type} {enc : TypeId × Value → H} {w : World} {base : Nat} {spare : Nat → Bool} {held : Bool}
theorem open_op {fuel : Nat} {cs : List Value} {x : DataW H × List MemPlace} (h : DataW.trod enc Try.prog w base spare held fuel 40 cs = some x) (hF : Fits Try.prog 40 x.1) :
    ∃ y : OpD, cs = [.bool y.o, .string y.lb, .int .u16 y.s, .int .u32 y.k, .slice y.A y.d.length y.c] ∧ Byts w y.A y.d ∧ y.d.length ≤ y.c ∧ y.d.length ≤ 140737488351232 ∧ y.lb.size ≤ maxLen := by
  obtain ⟨xs, n, _, rfl, hl, hlen, hf⟩ := DataW.trod_struct Try.underlying40 h
  rw [cells40] at hl
  match cs, hl, xs, hlen with
  | [c0, c1, c2, c3, c4], _, [y0, y1, y2], _ =>
    have h0 : DataW.trod enc Try.prog w base spare held n 4 (([c0, c1, c2, c3, c4].drop 0).take (Try.prog.cellsOf 4)) = some y0 := hf 0 _ rfl
    have h1 : DataW.trod enc Try.prog w base spare held n 9 (([c0, c1, c2, c3, c4].drop 1).take (Try.prog.cellsOf 9)) = some y1 := hf 1 _ rfl
    have h2 : DataW.trod enc Try.prog w base spare held n 38 (([c0, c1, c2, c3, c4].drop 2).take (Try.prog.cellsOf 38)) = some y2 := hf 2 _ rfl
    rw [cells4] at h0
    rw [cells9] at h1
    rw [cells38] at h2
    obtain ⟨b, e0, _⟩ := DataW.trod_bool Try.underlying4 h0
    obtain ⟨lb, e1, _, hls⟩ := DataW.trod_string Try.underlying9 h1
    obtain ⟨s, k, A, c, d, e2, hB, hc, hfit⟩ := open_msg h2
    simp only [List.drop_zero, List.drop_succ_cons, List.take_succ_cons, List.take_zero, List.cons.injEq, and_true] at e0 e1 e2
    obtain ⟨rfl, rfl, rfl⟩ := e2
    subst e0 e1
    have := fits_agg Try.underlying40 hF
    exact ⟨⟨b, lb, s, k, A, c, d⟩, rfl, hB, hc, hfit (fits_cons (fits_cons (fits_cons this).2).2).1, hls⟩
theorem open_ops {fuel : Nat} {cs : List Value} {x : DataW H × List MemPlace} (h : DataW.trod enc Try.prog w base (fun _ => true) held fuel 35 cs = some x) (hF : Fits Try.prog 35 x.1) :
    ∃ (A : Option Addr) (c : Nat) (xs : List OpD), cs = [.slice A xs.length c] ∧ OpsAt w A xs ∧ xs.length ≤ 140737488351232 := by
  rcases open_slice Try.underlying35 h with ⟨rfl, rfl⟩ | ⟨a, len, cap, m, n, D, Pl, rfl, _, hlc, _, hm, rfl, hi⟩
  · exact ⟨none, 0, [], rfl, fun h0 => absurd h0 (by simp), Nat.zero_le _⟩
  · simp only [if_true] at hm
    obtain ⟨hsz, hel⟩ := fits_slice Try.underlying35 hF
    rw [bytes40] at hsz
    simp only [List.length_map, List.length_range, reachBytes] at hsz
    have hex : ∀ i : Fin len, ∃ y : OpD, ∃ g o, a = ⟨g, o, none⟩ ∧ g < w.heap.size ∧ OpAt w g (o + i.1 * 5) y := by
      intro i
      obtain ⟨cs', hc, ht⟩ := hi i.1 (by omega)
      obtain ⟨y, rfl, hB, h1, h2, h3⟩ := open_op ht (hel _ (List.mem_map.2 ⟨i.1, List.mem_range.2 i.2, rfl⟩))
      obtain ⟨_, hcl, hat⟩ := World.cells?_some hc
      rw [cells40] at hat
      have e0 := hat 0 (by omega)
      have e1 := hat 1 (by omega)
      have e2 := hat 2 (by omega)
      have e3 := hat 3 (by omega)
      have e4 := hat 4 (by omega)
      have hsp : a.spot = none := by
        obtain ⟨cs0, hc0, ht0⟩ := hi 0 (by have := i.2; omega)
        obtain ⟨y0, rfl, _⟩ := open_op ht0 (hel _ (List.mem_map.2 ⟨0, List.mem_range.2 (by have := i.2; omega), rfl⟩))
        obtain ⟨_, _, hat0⟩ := World.cells?_some hc0
        rw [cells40] at hat0
        have := hat0 0 (by omega)
        simp only [Nat.zero_mul, Addr.add, if_true, List.getElem?_cons_zero] at this
        exact World.cell?_spot this
      obtain ⟨g, o, spot⟩ := a
      simp only at hsp
      subst hsp
      rw [add_at, add_at] at e0 e1 e2 e3 e4
      exact ⟨y, g, o, rfl, World.block_lt_of_cell? _ _ e0, e0, e1, e2, e3, e4, hB, h1, h2, h3⟩
    refine ⟨some a, cap, List.ofFn fun i : Fin len => Classical.choose (hex i), by rw [List.length_ofFn], ?_, by rw [List.length_ofFn]; omega⟩
    intro h0
    rw [List.length_ofFn] at h0
    obtain ⟨g, o, e, hg, _⟩ := Classical.choose_spec (hex ⟨0, h0⟩)
    refine ⟨g, o, by rw [e], hg, fun i hi' => ?_⟩
    rw [List.length_ofFn] at hi'
    obtain ⟨g', o', e', _, hop⟩ := Classical.choose_spec (hex ⟨i, hi'⟩)
    rw [e] at e'
    injection e' with e1 e2
    subst e1 e2
    rw [List.getElem_ofFn]
    exact hop
end
end Go.Proofs.Ytpfacfolocjidaa
