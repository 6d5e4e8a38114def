/- rows of structs that are worked upon in place: words. -/
import Derived.Test.YtddopbbmgpnjjaaMo
namespace Go.Proofs.Ytddopbbmgpnjjaa
open Go.RowKit
set_option linter.unusedSimpArgs false
section
variable {I J : Img} {M : List Res} {w w' : World} {r r' : Res}
theorem St.as (h : St I (r :: M) w) (hr : r'.ok w) (hb : r'.blk = r.blk) : St I (r' :: M) w :=
  h.turn rfl rfl rfl (fun _ _ _ => rfl) hr (fun b h2 => .inl (by rw [← hb]; exact h2))
theorem St.rowBk {e s n n' c : Nat} {A : Option Addr} {xs : List Value} (h : St I (row e s (.slice A n' c) n xs :: M) w) (h0 : 0 < xs.length) :
    ∃ g cur, A = some ⟨g, 0, none⟩ ∧ n' = n ∧ n ≤ c ∧ c ≤ maxLen ∧ cur.size = c * s ∧ cur.toList.take (n * s) = xs ∧ St I (bk g e cur :: M) w := by
  have ho : w.ownsRow 0 e s (.slice A n' c) n xs := h.head
  rcases ho.2 with ⟨_, hn⟩ | ⟨g, cap, cur, hv, _, hg, h1, h2, h3, h4⟩
  · have := ho.1; rw [hn] at this; omega
  · injection hv with hA hn hc
    subst hA hn hc
    exact ⟨g, cur, rfl, rfl, h1, h2, h3, h4, h.as (r' := bk g e cur) hg rfl⟩
theorem St.bkRow {g e s n c : Nat} {cur : Array Value} {xs : List Value} (h : St I (bk g e cur :: M) w) (h1 : n ≤ c) (h2 : c ≤ maxLen) (h3 : cur.size = c * s) (h4 : cur.toList.take (n * s) = xs) : St I (row e s (.slice (some ⟨g, 0, none⟩) n c) n xs :: M) w := by
  refine h.as (r' := row e s (.slice (some ⟨g, 0, none⟩) n c) n xs) ⟨?_, .inr ⟨g, c, cur, rfl, Nat.zero_le _, h.head, h1, h2, h3, h4⟩⟩ rfl
  rw [← h4, List.length_take, Array.length_toList, h3]
  exact Nat.min_eq_left (Nat.mul_le_mul_right s h1)
theorem St.setCells {g t : Nat} : ∀ (vs : List Value) (o : Nat) {cur : Array Value} {w : World}, St I (bk g t cur :: M) w → o + vs.length ≤ cur.size → St I (bk g t (cur.toList.take o ++ vs ++ cur.toList.drop (o + vs.length)).toArray :: M) (w.setCells g o vs)
  | [], o, cur, w, h, _ => by
    simp only [List.append_nil, List.length_nil, Nat.add_zero, List.take_append_drop, Array.toArray_toList]
    exact h
  | v :: r, o, cur, w, h, hl => by
    have ih := St.setCells r (o + 1) (h.set o v) (by simp at hl ⊢; omega)
    have e := list_seg_step cur.toList o v r (by simp at hl ⊢; omega)
    rw [Array.toList_setIfInBounds, e] at ih
    exact ih
theorem Blk.some {g t i : Nat} {cur : Array Value} (h : Blk w g t cur) (hi : i < cur.size) : ∃ v, w.cell? ⟨g, i, none⟩ = some v := ⟨cur[i], by rw [h.cell, Array.getElem?_eq_getElem hi]⟩
/-- some cells of a block are written anew -/
theorem St.setSeg {g t : Nat} {cur : Array Value} (h : St I (bk g t cur :: M) w) (o : Nat) (vs : List Value) : St I (bk g t (cur.toList.take o ++ vs ++ cur.toList.drop (o + vs.length)).toArray :: M) (w.setRow g (cur.toList.take o ++ vs ++ cur.toList.drop (o + vs.length)).toArray) := h.setR _
end
section
variable {P : Program} {w : World}
theorem run_clear_row (t e ty : TypeId) (z : Value) (ht : P.underlying t = some (.slice e)) (hz : ∀ w, (zeroValue e).run P w = .ok z w) (g o n c : Nat) (T : TypeId) (cur : Array Value) (hg : w.heap[g]? = some (.cells cur T (0, 0)))
    (hfit : o + n * z.cells.size ≤ cur.size) (h1 : z.cells.toList.all (·.oneCell') = true) (hs : 0 < z.cells.size) (zs : List Value) (hzs : zs = (Builtin.zeroCells z.cells n).toList) :
    (Builtin.clear_ #[t] ty #[.slice (some ⟨g, o, none⟩) n c]).run P w = .ok (.tuple #[]) (w.setRow g (cur.toList.take o ++ zs ++ cur.toList.drop (o + zs.length)).toArray) := by
  have hl : zs.length = n * z.cells.size := by rw [hzs]; simp [Builtin.zeroCells]
  have hone : ∀ v ∈ zs, v.oneCell' = true := by
    intro v hv
    rw [hzs] at hv
    simp only [Builtin.zeroCells, Array.toList_map, List.mem_map] at hv
    obtain ⟨i, _, rfl⟩ := hv
    have hi : i % z.cells.size < z.cells.size := Nat.mod_lt _ hs
    rw [getElem!_pos z.cells _ hi]
    exact List.all_eq_true.1 h1 _ (by simp)
  cases n with
  | zero =>
    have : zs = [] := List.length_eq_zero_iff.1 (by rw [hl]; simp)
    subst this
    simp only [List.append_nil, List.length_nil, Nat.add_zero, List.take_append_drop, Array.toArray_toList]
    rw [setRow_self w g cur T (0, 0) hg]
    simp [Builtin.clear_, run_underlying ht]
  | succ m =>
    have hst := run_storeCells_at P g o T zs 0 cur w hg (by rw [hl]; simpa using hfit) hone
    simp only [Nat.add_zero] at hst
    simp [Builtin.clear_, run_underlying ht, hz, ← hzs, hst]
theorem wpList_clear_row {ops : Array Oper} {rest : List Oper} {o : Oper} {a : Act} {Q : Exit → Act → World → Prop} (hgd : o.guard = none) (x : Operand) (t : TypeId) (ho : o.op = .call { callee := .builtin .clear, args := #[x], argTypes := #[t] })
    (e : TypeId) (z : Value) (ht : P.underlying t = some (.slice e)) (hz : ∀ w, (zeroValue e).run P w = .ok z w) (g off n c : Nat) (hx : a.eval x = .slice (some ⟨g, off, none⟩) n c) (T : TypeId) (cur : Array Value) (hg : w.heap[g]? = some (.cells cur T (0, 0)))
    (hfit : off + n * z.cells.size ≤ cur.size) (h1 : z.cells.toList.all (·.oneCell') = true) (hs : 0 < z.cells.size)
    (h : ∀ zs : List Value, zs.length = n * z.cells.size → wpList P ops Q rest (a.put o.dst (.tuple #[])) (w.setRow g (cur.toList.take off ++ zs ++ cur.toList.drop (off + zs.length)).toArray)) : wpList P ops Q (o :: rest) a w :=
  wpList_plain hgd fun _ hK => by
    have hr := run_clear_row (P := P) (w := w) t e o.type z ht hz g off n c T cur hg hfit h1 hs _ rfl
    unfold Oper.wp execOp
    simp only [ho, resolve, invoke, builtin, Sem.run_bind, Sem.run_pure, Result.andThen_ok, List.map_toArray, List.map_cons, List.map_nil, hx, hr]
    exact hK _ _ (h _ (by simp [Builtin.zeroCells]))
/-- a struct is stored amid a row -/
theorem wpList_store_seg {ops : Array Oper} {rest : List Oper} {o : Oper} {a : Act} {Q : Exit → Act → World → Prop} (hgd : o.guard = none) (ty : TypeId) (x y : Operand) (ho : o.op = .store ty x y)
    (g off : Nat) (cells : Array Value) (hx : a.eval x = .pointer (some ⟨g, off, none⟩)) (hy : a.eval y = .agg cells)
    (T : TypeId) (cur : Array Value) (hg : w.heap[g]? = some (.cells cur T (0, 0))) (hi : (P.info? ty).map (·.size) = some cells.size)
    (hfit : off + cells.size ≤ cur.size) (h1 : cells.all (·.oneCell') = true)
    (h : wpList P ops Q rest (a.put o.dst undef) (w.setRow g (cur.toList.take off ++ cells.toList ++ cur.toList.drop (off + cells.toList.length)).toArray)) : wpList P ops Q (o :: rest) a w :=
  wpList_plain hgd fun _ hK => by
    have hst := run_storeCells_at P g off T cells.toList 0 cur w hg (by simpa using hfit) (fun v hv => by
      have := Array.all_eq_true_iff_forall_mem.1 h1 v (by simpa using hv)
      exact this)
    simp only [Nat.add_zero] at hst
    have hsz : ∀ w : World, (sizeOf ty).run P w = .ok cells.size w := fun w => by
      cases hq : P.info? ty with
      | none => simp [hq] at hi
      | some i => simp [sizeOf, typeInfo, hq]; simpa [hq] using hi
    unfold Oper.wp execOp
    simp only [ho, hx, hy, Instr.storeAt, Instr.sureAddr, storeVar, Value.cells, hsz, Sem.run_bind, Sem.run_pure, Result.andThen_ok, ne_eq, not_true_eq_false, if_false, hst]
    exact hK _ _ h
end
def idx {α : Type} (p : α → Bool) (l : List α) : Int := match l.findIdx? p with | some i => (i : Int) | none => -1
theorem idx_hit {α : Type} {p : α → Bool} {l : List α} {i : Nat} (hi : i < l.length) (h : p l[i] = true) (hno : ∀ j (hj : j < l.length), j < i → p l[j] = false) : idx p l = i := by
  unfold idx
  rw [List.findIdx?_eq_some_iff_getElem.2 ⟨hi, h, fun j hj => by rw [hno j (by omega) hj]; simp⟩]
theorem idx_none {α : Type} {p : α → Bool} {l : List α} (hno : ∀ j (hj : j < l.length), p l[j] = false) : idx p l = -1 := by
  unfold idx
  rw [List.findIdx?_eq_none_iff.2 (fun x hx => by obtain ⟨j, hj, rfl⟩ := List.getElem_of_mem hx; exact hno j hj)]
theorem idx_ways {α : Type} (p : α → Bool) (l : List α) : (idx p l = -1 ∧ ∀ x ∈ l, p x = false) ∨ ∃ i, ∃ hi : i < l.length, idx p l = i ∧ p l[i] = true ∧ ∀ j (hj : j < l.length), j < i → p l[j] = false := by
  unfold idx
  cases e : l.findIdx? p with
  | none => exact .inl ⟨rfl, List.findIdx?_eq_none_iff.1 e⟩
  | some i =>
    obtain ⟨hi, h, hno⟩ := List.findIdx?_eq_some_iff_getElem.1 e
    exact .inr ⟨i, hi, rfl, h, fun j hj hji => by simpa using hno j hji⟩
theorem idx_any {α : Type} (p : α → Bool) (l : List α) : (decide (0 ≤ idx p l)) = l.any p := by
  rcases idx_ways p l with ⟨e, h⟩ | ⟨i, hi, e, h, _⟩
  · rw [e]
    have : l.any p = false := by
      rw [List.any_eq_false]
      intro x hx
      rw [h x hx]; simp
    rw [this]; rfl
  · rw [e, List.any_eq_true.2 ⟨_, List.getElem_mem hi, h⟩]
    exact decide_eq_true (by omega)
end Go.Proofs.Ytddopbbmgpnjjaa
