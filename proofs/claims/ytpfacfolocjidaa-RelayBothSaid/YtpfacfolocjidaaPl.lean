import Derived.Test.YtpfacfolocjidaaNil
import Derived.Test.YtpfacfolocjidaaRefTake
namespace Go.Proofs.Ytpfacfolocjidaa
open Go.RowKit

structure OpD where
  o : Bool
  lb : ByteArray
  s : Int
  k : Int
  A : Option Addr
  c : Nat
  d : List UInt8
def OpAt (w : World) (g o : Nat) (x : OpD) : Prop :=
  w.cell? ⟨g, o, none⟩ = some (.bool x.o) ∧ w.cell? ⟨g, o + 1, none⟩ = some (.string x.lb) ∧ w.cell? ⟨g, o + 2, none⟩ = some (.int .u16 x.s) ∧ w.cell? ⟨g, o + 3, none⟩ = some (.int .u32 x.k) ∧ w.cell? ⟨g, o + 4, none⟩ = some (.slice x.A x.d.length x.c) ∧
    Byts w x.A x.d ∧ x.d.length ≤ x.c ∧ x.d.length ≤ 140737488351232 ∧ x.lb.size ≤ maxLen
def OpsAt (w : World) (A : Option Addr) (xs : List OpD) : Prop := 0 < xs.length → ∃ g o, A = some ⟨g, o, none⟩ ∧ g < w.heap.size ∧ ∀ i (h : i < xs.length), OpAt w g (o + i * 5) xs[i]
theorem OpAt.below {w w' : World} {g o : Nat} {x : OpD} (h : OpAt w g o x) (hb : Below w.heap.size w w') (hg : g < w.heap.size) : OpAt w' g o x := by
  obtain ⟨h0, h1, h2, h3, h4, h5, h6⟩ := h
  exact ⟨(hb.cell (p := ⟨g, o, none⟩) hg).trans h0, (hb.cell (p := ⟨g, o + 1, none⟩) hg).trans h1, (hb.cell (p := ⟨g, o + 2, none⟩) hg).trans h2, (hb.cell (p := ⟨g, o + 3, none⟩) hg).trans h3, (hb.cell (p := ⟨g, o + 4, none⟩) hg).trans h4, h5.below hb (Nat.le_refl _), h6⟩
theorem Bk.other {T E T' E' base b b' : Nat} {v v' : Value} {cs cs' : List Ch} {w w' : World} (h : Bk T E w base b v cs) (h' : Bk T' E' w base b' v' cs') (f : Fr w w' b' v') (h1 : T ≠ T') (h2 : T ≠ E') (h3 : E ≠ T') (h4 : E ≠ E') : Bk T E w' base b v cs := by
  have hb : b ≠ b' := by
    rintro rfl
    have a := h.blk
    rw [h'.blk] at a
    simp at a
    exact h1 a.2.symm
  have hbv : v'.ownBlock ≠ some b := own_ne_blk h'.own h.blk (fun e => h2 e.symm)
  have hvb : v.ownBlock ≠ some b' := own_ne_blk h.own h'.blk h3
  refine ⟨(f.block b h.lt hb (fun e => hbv e.symm)).trans h.blk, h.lo, ?_⟩
  refine ⟨h.own.1, ?_⟩
  rcases h.own.2 with hn | ⟨g, cap, cur, rfl, hg, hh, r⟩
  · exact .inl hn
  · have hgl := (Array.getElem?_eq_some_iff.1 hh).1
    have hgv : v'.ownBlock ≠ some g := own_ne_blk h'.own (show Blk w g E cur from hh) (fun e => h4 e.symm)
    exact .inr ⟨g, cap, cur, rfl, hg, (f.block g hgl (fun e => hvb (by simp [Value.ownBlock, e])) (fun e => hgv e.symm)).trans hh, r⟩
theorem takeS_len {cs : List Ch} (s k : Int) (d : List UInt8) (h : cs.length ≤ 8) : (takeS cs s k d).cs.length ≤ 8 := by
  unfold takeS
  split
  · split <;> exact h
  · split
    · exact h
    · split
      · split <;> exact h
      · split
        · exact h
        · rename_i x _
          split
          · rename_i hE
            have := openC_len (s := s) (x := x) h
            rw [openC, if_pos hE] at this
            exact this
          · exact h
theorem openEE_len {cs : List Ch} (s : Int) (x : ByteArray) (h : cs.length ≤ 8) : (if openEE s x cs = 0 then cs ++ [(s, x)] else cs).length ≤ 8 := by
  have h2 := openC_len (s := s) (x := x) h
  unfold openEE
  by_cases hw : wordB x 1 32 = true
  · simp only [hw, if_true]
    exact h2
  · simp only [hw]
    rw [if_neg (by simp)]
    exact h
theorem Byts.put3 {w : World} {A : Option Addr} {d : List UInt8} (h : Byts w A d) {g : Nat} (hg : ∀ g' o, A = some ⟨g', o, none⟩ → 0 < d.length → g' ≠ g) (x y z : Value) : Byts (set3 w g x y z) A d := by
  intro h0
  obtain ⟨g', o, rfl, hlt, hc⟩ := h h0
  have hne := hg g' o rfl h0
  refine ⟨g', o, rfl, by simpa [Proofs.Ytpfacfolocjidaa.set3, World.setCell] using hlt, fun j hj => ?_⟩
  have e : (Proofs.Ytpfacfolocjidaa.set3 w g x y z).heap[g']? = w.heap[g']? := by
    unfold Proofs.Ytpfacfolocjidaa.set3
    rw [Below.heap_setCell _ _ _ _ hne, Below.heap_setCell _ _ _ _ hne, Below.heap_setCell _ _ _ _ hne]
  rw [World.cell?_of_block (w := w) e]
  exact hc j hj
theorem Blk.put3 {w : World} {g t : Nat} {a b c : Value} (h : Blk w g t #[a, b, c]) (x y z : Value) : Blk (set3 w g x y z) g t #[x, y, z] := ((h.set 0 x).set 1 y).set 2 z
theorem Blk.far3 {w : World} {g g' t : Nat} {cs : Array Value} (h : Blk w g t cs) (hg : g ≠ g') (x y z : Value) : Blk (set3 w g' x y z) g t cs :=
  ((h.setFar (p := ⟨g', 0, none⟩) hg _).setFar (p := ⟨g', 1, none⟩) hg _).setFar (p := ⟨g', 2, none⟩) hg _
theorem Below.put3 {B : Nat} {a w : World} (h : Below B a w) {g : Nat} (hp : B ≤ g) (x y z : Value) : Below B a (set3 w g x y z) := ((h.setCell (p := ⟨g, 0, none⟩) hp _).setCell (p := ⟨g, 1, none⟩) hp _).setCell (p := ⟨g, 2, none⟩) hp _
theorem Below.fr {T E base b : Nat} {v : Value} {cs : List Ch} {a w w' : World} (h : Below base a w) (hk : Bk T E w base b v cs) (f : Fr w w' b v) : Below base a w' :=
  h.trans (f.below hk.lo (fun k h => (hk.own.lt k h).1) (by have := hk.lt; have := hk.lo; omega))
end Go.Proofs.Ytpfacfolocjidaa
