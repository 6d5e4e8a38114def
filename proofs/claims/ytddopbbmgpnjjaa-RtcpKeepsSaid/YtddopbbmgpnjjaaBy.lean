/- a string's bytes, as memory of the call's own. -/
import Derived.Test.YtddopbbmgpnjjaaMo
import Derived.Laws.OwnMore
import Derived.Test.YtddopbbmgpnjjaaTx
namespace Go.Proofs.Ytddopbbmgpnjjaa
open Go.RowKit
set_option linter.unusedSimpArgs false

/-- an object of the call's own, whatever it is -/
def ob (g : Nat) (o : Obj) : Res where
  blk := some g
  ok w := w.heap[g]? = some o
  loc _ _ h hb := (hb g rfl).trans h
  lt _ h b hb := by injection hb with hb; subst hb; exact (Array.getElem?_eq_some_iff.1 h).1
theorem St.allocO {I : Img} {M : List Res} {w : World} (h : St I M w) (o : Obj) : ∃ J, I.le J ∧ St J M (w.alloc o) ∧ J.obj w.heap.size = some o := by
  have h1 : St I (ob w.heap.size o :: M) (w.alloc o) := St.more (w := w) (h.grow _) (heap_alloc_new w _) (fun b hb => by injection hb with hb; subst hb; simp) h
  obtain ⟨h2, h3⟩ := h1.freeze (b := w.heap.size) rfl
  refine ⟨_, h2, h3, ?_⟩
  show (if w.heap.size = w.heap.size then _ else _) = _
  rw [if_pos rfl]
  exact h1.head
theorem bytesRow_at (s : ByteArray) (c k : Nat) (h : k < s.size) : (bytesRow s c)[k]? = some (.int .u8 s[k].toNat) := by
  have : k < s.data.size := h
  simp only [bytesRow]
  rw [Array.getElem?_append_left (by simpa using this)]
  rw [Array.getElem?_map, Array.getElem?_eq_getElem this]; rfl
theorem St.bytesOf {I : Img} {M : List Res} {w : World} (h : St I M w) (s : ByteArray) (c : Nat) (x : Nat × Nat) : ∃ J, I.le J ∧ St J M (w.drew.alloc (.cells (bytesRow s c) 5 x)) ∧ Byts J (some ⟨w.heap.size, 0, none⟩) (ls s) := by
  obtain ⟨J, h1, h2, h3⟩ := h.drew.allocO (.cells (bytesRow s c) 5 x)
  refine ⟨J, h1, h2, fun h0 => ⟨w.heap.size, 0, rfl, fun j hj => ?_⟩⟩
  have hj' : j < s.size := by rw [bvs_len, ls_len] at hj; exact hj
  have h4 : J.obj w.heap.size = some (.cells (bytesRow s c) 5 x) := h3
  simp only [Img.cell?, h4, Nat.zero_add]
  have := bytesRow_at s c j hj'
  show (if false = true then none else (bytesRow s c)[j]?) = _
  rw [if_neg (by decide), this]
  simp [bvs, bv, ls]
  rfl
end Go.Proofs.Ytddopbbmgpnjjaa
