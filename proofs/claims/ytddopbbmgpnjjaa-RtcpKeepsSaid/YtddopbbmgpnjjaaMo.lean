/- more words on memory: whole rows set, memory made to one side; steps in drawn regions. -/
import Derived.Test.YtddopbbmgpnjjaaSt
namespace Go.Proofs.Ytddopbbmgpnjjaa
open Go.RowKit
section
variable {I J : Img} {M : List Res} {w w2 : World} {a b c d : Res} {g q : Nat} {t e : TypeId} {cs : Array Value} {o : Obj}
theorem Blk.all (h : Blk w g t cs) : (∀ i, w.cell? ⟨g, i, none⟩ = cs[i]?) ∧ (∀ i, w.frozen? ⟨g, i, none⟩ = false) ∧ g < w.heap.size := ⟨h.cell, h.frozen, h.lt⟩
theorem cell_lt {i : Nat} {v : Value} (h : w.cell? ⟨g, i, none⟩ = some v) : g < w.heap.size := by
  apply Classical.byContradiction
  intro hn
  rw [World.cell?, Array.getElem?_eq_none (by simpa using hn)] at h
  cases h
theorem St.setR (h : St I (bk g t cs :: M) w) (cs' : Array Value) : St I (bk g t cs' :: M) (w.setRow g cs') :=
  h.turn rfl rfl rfl (fun k _ hne => setRow_other w g k cs' (fun e => hne (by rw [e]; rfl))) (setRow_heap w g cs cs' t _ h.head) (fun _ hb => .inl hb)
theorem St.setR1 (h : St I (a :: bk g t cs :: M) w) (cs' : Array Value) : St I (a :: bk g t cs' :: M) (w.setRow g cs') := (h.swap1.setR cs').swap1
theorem St.setR2 (h : St I (a :: b :: bk g t cs :: M) w) (cs' : Array Value) : St I (a :: b :: bk g t cs' :: M) (w.setRow g cs') := (h.swap2.setR cs').swap2
theorem St.setR3 (h : St I (a :: b :: c :: bk g t cs :: M) w) (cs' : Array Value) : St I (a :: b :: c :: bk g t cs' :: M) (w.setRow g cs') := (h.swap3.setR cs').swap3
theorem St.set1 (h : St I (a :: bk g t cs :: M) w) (i : Nat) (u : Value) : St I (a :: bk g t (cs.setIfInBounds i u) :: M) (w.setCell ⟨g, i, none⟩ u) := (h.swap1.set i u).swap1
theorem St.set2 (h : St I (a :: b :: bk g t cs :: M) w) (i : Nat) (u : Value) : St I (a :: b :: bk g t (cs.setIfInBounds i u) :: M) (w.setCell ⟨g, i, none⟩ u) := (h.swap2.set i u).swap2
theorem St.set3 (h : St I (a :: b :: c :: bk g t cs :: M) w) (i : Nat) (u : Value) : St I (a :: b :: c :: bk g t (cs.setIfInBounds i u) :: M) (w.setCell ⟨g, i, none⟩ u) := (h.swap3.set i u).swap3
theorem St.set4 (h : St I (a :: b :: c :: d :: bk g t cs :: M) w) (i : Nat) (u : Value) : St I (a :: b :: c :: d :: bk g t (cs.setIfInBounds i u) :: M) (w.setCell ⟨g, i, none⟩ u) := (h.swap4.set i u).swap4
theorem St.growTo (h : St I M w) (e : w.alloc o = w2) : St I M w2 := e ▸ h.grow o
theorem St.lit0To (h : St I M w) (he : w.alloc (.cells #[] e) = w2) : St I (row e 1 (.slice (some ⟨w.heap.size, 0, none⟩) 0 0) 0 [] :: M) w2 := he ▸ St.fresh h (h.grow _) h.lit0
theorem St.alloc0To (h : St I M w) (e : w.alloc (.cells cs t) = w2) (hq : q = w.heap.size) : St I (bk q t cs :: M) w2 := by
  subst hq e
  exact h.alloc t cs
theorem St.alloc1To (h : St I (a :: M) w) (e : w.alloc (.cells cs t) = w2) (hq : q = w.heap.size) : St I (a :: bk q t cs :: M) w2 := by
  subst hq e
  exact (h.alloc t cs).swap1
theorem St.alloc2To (h : St I (a :: b :: M) w) (e : w.alloc (.cells cs t) = w2) (hq : q = w.heap.size) : St I (a :: b :: bk q t cs :: M) w2 := by
  subst hq e
  exact (h.alloc t cs).swap2.swap1
theorem St.less (h : St J M w) (hl : I.le J) : St I M w :=
  ⟨h.os.trans hl.os, h.tape.trans hl.tape, h.output.trans hl.output, fun k o hk => h.img k o (hl.obj k o hk), h.res, h.apart, fun r hr b hb => by
    have := h.away r hr b hb
    cases e : I.obj b with
    | none => rfl
    | some o => rw [hl.obj b o e] at this; cases this⟩
/-- bytes that stand in a literal of the call's own -/
theorem St.litSrc {P : Program} (h : St I M w) (l : List UInt8) (hcs : cs.toList = bvs l) (ht : P.underlying t = some (.slice e)) :
    Src P 1 t (.slice (some ⟨w.heap.size, 0, none⟩) l.length l.length) l.length (bvs l) (w.alloc (.cells cs e)) := by
  obtain ⟨J, _, hs, ho⟩ := (h.alloc e cs).freezeBlk
  exact (Byts.ofBlk ho hcs).src hs ht l.length
theorem Cells.ofBlk {I : Img} {g t : Nat} {cs : Array Value} (h : I.obj g = some (.cells cs t (0, 0))) : Cells I (some ⟨g, 0, none⟩) cs.toList := by
  intro _
  refine ⟨g, 0, rfl, fun j hj => ?_⟩
  simp only [Img.cell?, h, Nat.zero_add]
  have : cs[j]? = cs.toList[j]? := by simp
  rw [this]
  simp [List.getElem?_eq_getElem hj]
/-- whatever stands in a literal of the call's own -/
theorem St.litSrcV {P : Program} {size n : Nat} (h : St I M w) (hl : cs.toList.length = n * size) (h1 : 0 < size) (ht : P.underlying t = some (.slice e)) (hone : ∀ u ∈ cs.toList, u.oneCell' = true) :
    Src P size t (.slice (some ⟨w.heap.size, 0, none⟩) n n) n cs.toList (w.alloc (.cells cs e)) := by
  obtain ⟨J, _, hs, ho⟩ := (h.alloc e cs).freezeBlk
  exact (Cells.ofBlk ho).src hs hl h1 ht n hone
end
section
variable {P : Program}
theorem step_store_row {ops : Array Oper} {o : Oper} {a : Act} {w : World} {K : Act → World → Prop} {Q : Exit → Act → World → Prop} {E : Prop} (hgd : o.guard = none) (ty : TypeId) (x y : Operand) (ho : o.op = .store ty x y)
    (g : Nat) (cells : Array Value) (hx : a.eval x = .pointer (some ⟨g, 0, none⟩)) (hy : a.eval y = .agg cells)
    (t : TypeId) (old : Array Value) (hg : w.heap[g]? = some (.cells old t (0, 0))) (hi : (P.info? ty).map (·.size) = some cells.size)
    (hold : old.size = cells.size) (h1 : cells.all (·.oneCell') = true)
    (h : K (a.put o.dst undef) (w.setRow g cells)) : if Region.wanted o (yielded ops a.tmps) = true then Oper.wp P o a w K Q else E := by
  have hw : Region.wanted o (yielded ops a.tmps) = true := by simp [Region.wanted, hgd]
  rw [if_pos hw]
  exact wp_store_row ty x y ho g cells hx hy t old hg hi hold h1 h
end
theorem ret_eq {u v : Value} (h : u = v) : Ending.returned u = Ending.returned v := by rw [h]
theorem u32_mod (x : Int) : IntKind.u32.wrap x = x % 4294967296 := by simp only [IntKind.wrap, IntKind.signed, IntKind.bits]; rfl
theorem u16_mod (x : Int) : IntKind.u16.wrap x = x % 65536 := by simp only [IntKind.wrap, IntKind.signed, IntKind.bits]; rfl
theorem u8_mod (x : Int) : IntKind.u8.wrap x = x % 256 := by simp only [IntKind.wrap, IntKind.signed, IntKind.bits]; rfl
theorem u64_mod (x : Int) : IntKind.u64.wrap x = x % 18446744073709551616 := by simp only [IntKind.wrap, IntKind.signed, IntKind.bits]; rfl
end Go.Proofs.Ytddopbbmgpnjjaa
