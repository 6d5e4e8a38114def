import Derived.Test.YtpfacfolocjidaaPlays
namespace Go.Proofs.Ytpfacfolocjidaa
open Go.RowKit

theorem openD_ne (x : ByteArray) : openD x ≠ [2] := by simp [openD]
theorem labS_openD {x : ByteArray} (hw : wordB x 1 32 = true) : labS (openD x) = some x := by
  have hx : x.size ≤ 32 := by simp only [wordB, Bool.and_eq_true, decide_eq_true_eq] at hw; omega
  have hn : numL [0, UInt8.ofNat x.size] = x.size := by
    rw [numL_two, UInt8.toNat_ofNat', Nat.mod_eq_of_lt (by simp; omega)]; simp
  have h0 : numL [0, 0] = 0 := by simp [numL]
  have hl : x.data.toList.length = x.size := rfl
  have hxx : (⟨(x.data.toList.take x.size).toArray⟩ : ByteArray) = x := by
    rw [← hl, List.take_length]
  show labT 3 0 0 0 0 0 0 (UInt8.ofNat x.size) 0 0 x.data.toList = some x
  unfold labT
  rw [hn, h0, hxx, if_pos ⟨rfl, rfl, rfl, rfl, rfl, rfl, by rw [hl]; rfl, hw⟩]
theorem take_open {cs : List Ch} {s : Int} {x : ByteArray} (hw : wordB x 1 32 = true) (hE : openE s x cs = 0) : takeS cs s 50 (openD x) = ⟨s, 50, [2], ⟨#[]⟩, 0, cs ++ [(s, x)]⟩ := by
  simp [takeS, openD_ne, labS_openD hw, hE]
theorem idx_last {cs : List Ch} {s : Int} {x : ByteArray} : ¬ idx s (cs ++ [(s, x)]) < 0 := by
  have := idx_pos (s := s) (cs := cs ++ [(s, x)]) (c := (s, x)) (by simp) rfl
  omega
theorem idx_none {cs : List Ch} {s : Int} {x : ByteArray} (hE : openE s x cs = 0) : idx s cs < 0 := by
  unfold openE at hE
  split at hE
  · cases hE
  · rename_i h
    simp only [not_or] at h
    omega
theorem labAt_last {cs : List Ch} {s : Int} {x : ByteArray} (hE : openE s x cs = 0) : labAt s (cs ++ [(s, x)]) = x := by
  have h := idx_none hE
  have hn : cs.find? (fun c => c.1 == s) = none := by
    rw [List.find?_eq_none]
    intro c hc he
    have := idx_pos (s := s) hc (by simpa using he)
    omega
  simp [labAt, List.find?_append, hn]
theorem take_ack {cs : List Ch} {s : Int} {x : ByteArray} : takeS (cs ++ [(s, x)]) s 50 [2] = ⟨0, 0, [], ⟨#[]⟩, 0, cs ++ [(s, x)]⟩ := by
  simp [takeS, idx_last, tkNo]
theorem take_text {cs : List Ch} {s : Int} {x : ByteArray} {d : List UInt8} (hE : openE s x cs = 0) : takeS (cs ++ [(s, x)]) s 51 d = ⟨s, 51, d, x, 0, cs ++ [(s, x)]⟩ := by
  simp [takeS, idx_last, labAt_last hE]
theorem openEE_zero {s : Int} {x : ByteArray} {cs : List Ch} (h : openEE s x cs = 0) : wordB x 1 32 = true ∧ openE s x cs = 0 := by
  unfold openEE at h
  split at h
  · rename_i hw; exact ⟨hw, h⟩
  · cases h

/-- two books of one kind, that share nothing -/
structure Pair (w0 w : World) (b1 b2 : Nat) (cs1 cs2 : List Ch) : Prop where
  ex : ∃ v1 v2, Bk 59 74 w w0.heap.size b1 v1 cs1 ∧ Bk 59 74 w w0.heap.size b2 v2 cs2 ∧ (∀ g, v1.ownBlock = some g → v2.ownBlock ≠ some g)
  ne : b1 ≠ b2
  hb : Below w0.heap.size w0 w
theorem Pair.swap {w0 w : World} {b1 b2 : Nat} {cs1 cs2 : List Ch} (h : Pair w0 w b1 b2 cs1 cs2) : Pair w0 w b2 b1 cs2 cs1 := by
  obtain ⟨⟨v1, v2, h1, h2, h3⟩, hn, hb⟩ := h
  exact ⟨⟨v2, v1, h2, h1, fun g hg h1' => h3 g h1' hg⟩, fun e => hn e.symm, hb⟩
theorem Pair.below {w0 w w' : World} {b1 b2 : Nat} {cs1 cs2 : List Ch} (h : Pair w0 w b1 b2 cs1 cs2) (hb : Below w.heap.size w w') : Pair w0 w' b1 b2 cs1 cs2 := by
  obtain ⟨⟨v1, v2, h1, h2, h3⟩, hn, hb0⟩ := h
  exact ⟨⟨v1, v2, h1.below hb (Nat.le_refl _), h2.below hb (Nat.le_refl _), h3⟩, hn, hb0.trans (hb.mono hb0.size)⟩
theorem Pair.first {w0 w w' : World} {b1 b2 : Nat} {cs1 cs1' cs2 : List Ch} {v1 v2 v1' : Value} (h1 : Bk 59 74 w w0.heap.size b1 v1 cs1) (h2 : Bk 59 74 w w0.heap.size b2 v2 cs2) (h3 : ∀ g, v1.ownBlock = some g → v2.ownBlock ≠ some g) (hn : b1 ≠ b2) (hb : Below w0.heap.size w0 w)
    (h1' : Bk 59 74 w' w0.heap.size b1 v1' cs1') (f : Fr w w' b1 v1) (hat : v1'.ownBlock = v1.ownBlock ∨ ∃ g, v1'.ownBlock = some g ∧ w.heap.size ≤ g) : Pair w0 w' b1 b2 cs1' cs2 := by
  refine ⟨⟨v1', v2, h1', ?_, ?_⟩, hn, Below.fr hb h1 f⟩
  · have hb2 : v1.ownBlock ≠ some b2 := own_ne_blk h1.own h2.blk (by decide)
    have hvb : v2.ownBlock ≠ some b1 := own_ne_blk h2.own h1.blk (by decide)
    refine ⟨(f.block b2 h2.lt (fun e => hn e.symm) (fun e => hb2 e.symm)).trans h2.blk, h2.lo, h2.own.1, ?_⟩
    rcases h2.own.2 with hx | ⟨g, cap, cur, rfl, hg, hh, r⟩
    · exact .inl hx
    · have hgl := (Array.getElem?_eq_some_iff.1 hh).1
      exact .inr ⟨g, cap, cur, rfl, hg, (f.block g hgl (fun e => hvb (by simp [Value.ownBlock, e])) (fun e => h3 g e.symm (by simp [Value.ownBlock]))).trans hh, r⟩
  · intro g hg hv2
    have := (h2.own.lt g hv2).2
    rcases hat with h | ⟨g', h, hg'⟩
    · rw [h] at hg; exact h3 g hg hv2
    · rw [h] at hg; injection hg with hg; omega
end Go.Proofs.Ytpfacfolocjidaa
