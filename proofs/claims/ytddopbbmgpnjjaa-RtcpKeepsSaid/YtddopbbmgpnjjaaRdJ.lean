/- effects of a drawn region, for anyH_inv: empty literals, appends to them, memory of the call's own. -/
import Derived.Test.YtddopbbmgpnjjaaRdA
import Derived.Test.YtddopbbmgpnjjaaSi
namespace Go.Proofs.Ytddopbbmgpnjjaa
open Go.RowKit
set_option linter.unusedSimpArgs false

theorem St.mid {I : Img} {M1 M2 : List Res} {r : Res} {w : World} (h : St I (r :: (M1 ++ M2)) w) : St I (M1 ++ (r :: M2)) w := h.perm (List.perm_middle.symm)
theorem St.midOut {I : Img} {M1 M2 : List Res} {r : Res} {w : World} (h : St I (M1 ++ (r :: M2)) w) : St I (r :: (M1 ++ M2)) w := h.perm List.perm_middle
theorem St.mid2 {I : Img} {M1 M2 M3 : List Res} {r : Res} {w : World} (h : St I (r :: (M1 ++ (M2 ++ M3))) w) : St I (M1 ++ (M2 ++ (r :: M3))) w := by
  rw [← List.append_assoc] at h ⊢
  exact h.mid
theorem St.mid3 {I : Img} {M1 M2 M3 M4 : List Res} {r : Res} {w : World} (h : St I (r :: (M1 ++ (M2 ++ (M3 ++ M4)))) w) : St I (M1 ++ (M2 ++ (M3 ++ (r :: M4)))) w := by
  rw [← List.append_assoc, ← List.append_assoc] at h ⊢
  exact h.mid
theorem St.midOut2 {I : Img} {M1 M2 M3 : List Res} {r : Res} {w : World} (h : St I (M1 ++ (M2 ++ (r :: M3))) w) : St I (r :: (M1 ++ (M2 ++ M3))) w := by
  rw [← List.append_assoc] at h ⊢
  exact h.midOut
section
variable {P : Program} {ops : Array Oper} {Q : Exit → Act → World → Prop}
theorem lit_step {i : Nat} {o : Oper} {a : Act} {w : World} {t e : TypeId} {K : Act → World → Prop} {J : Img} {M : List Res} (size : Nat) (ho : ops[i]? = some o) (hgd : o.guard = none) (hop : o.op = .buildSlice t 0 #[])
    (hr : (Instr.buildSlice t 0 #[]).run P w = .ok (.slice (some ⟨w.heap.size, 0, none⟩) 0 0) (w.alloc (.cells #[] e))) (hst : St J M w)
    (h : ∀ v' w', St J (row e size v' 0 [] :: M) w' → K (a.put o.dst v') w') : wpOp P ops Q i K a w := by
  refine wpOp_step ho (fun K' hK' => ?_)
  have hw : Region.wanted o (yielded ops a.tmps) = true := by simp [Region.wanted, hgd]
  rw [if_pos hw]
  have hx : (execOp a.eval o).run P w = .ok (.value (.slice (some ⟨w.heap.size, 0, none⟩) 0 0)) (w.alloc (.cells #[] e)) := by
    unfold execOp
    simp only [hop, Array.map_empty, Sem.run_bind, hr, Result.andThen_ok, Sem.run_pure]
  unfold Oper.wp
  rw [hx]
  simp only [Oper.upon]
  have ho2 := World.ownsRow_lit (base := w.heap.size) (e := e) (size := size) w #[] 0 (Nat.le_refl _) (Nat.zero_le _) (by simp)
  exact hK' _ _ (h _ _ (St.fresh hst (hst.grow _) (by simpa using ho2)))
theorem val_step {i : Nat} {o : Oper} {a : Act} {w : World} {v : Value} {K : Act → World → Prop} (ho : ops[i]? = some o) (hgd : o.guard = none) (hr : (execOp a.eval o).run P w = .ok (.value v) w)
    (h : K (a.put o.dst v) w) : wpOp P ops Q i K a w := by
  refine wpOp_step ho (fun K' hK' => ?_)
  have hw : Region.wanted o (yielded ops a.tmps) = true := by simp [Region.wanted, hgd]
  rw [if_pos hw]
  unfold Oper.wp
  rw [hr]
  simp only [Oper.upon]
  exact hK' _ _ h
theorem alloc_step {i : Nat} {o : Oper} {a : Act} {w : World} {t : TypeId} {cs : Array Value} {K : Act → World → Prop} {J : Img} {M : List Res} (ho : ops[i]? = some o) (hgd : o.guard = none) (hop : o.op = .alloc t)
    (hr : (Instr.alloc t true (.tuple #[])).run P w = .ok (.pointer (some ⟨w.heap.size, 0, none⟩)) (w.alloc (.cells cs t))) (hst : St J M w)
    (h : ∀ g w', St J (bk g t cs :: M) w' → K (a.put o.dst (.pointer (some ⟨g, 0, none⟩))) w') : wpOp P ops Q i K a w := by
  refine wpOp_step ho (fun K' hK' => ?_)
  have hw : Region.wanted o (yielded ops a.tmps) = true := by simp [Region.wanted, hgd]
  rw [if_pos hw]
  have hx : (execOp a.eval o).run P w = .ok (.value (.pointer (some ⟨w.heap.size, 0, none⟩))) (w.alloc (.cells cs t)) := by
    unfold execOp
    simp only [hop, Sem.run_bind, hr, Result.andThen_ok, Sem.run_pure]
  unfold Oper.wp
  rw [hx]
  simp only [Oper.upon]
  exact hK' _ _ (h _ _ (hst.alloc t cs))
theorem app_step {α : Type} {i : Nat} {o : Oper} {a : Act} {w : World} {t e : TypeId} {K : Act → World → Prop} {J : Img} {M : List Res} (ho : ops[i]? = some o) (hgd : o.guard = none) (s y : Operand)
    (hop : o.op = .call { callee := .builtin .append, args := #[s, y], argTypes := #[t, t] }) (i0 : TypeInfo) (z : Value) (size bytes : Nat) (ht : P.underlying t = some (.slice e)) (hi : P.info? e = some i0) (hz : i0.zero = some z) (hsize : i0.size = size) (hby : i0.bytes = bytes) (hzs : z.cells.size = size) (h1 : 0 < size)
    (f : α → List Value) (l : List α) (A : Option Addr) (c : Nat) (v : Value) (hf : ∀ x, (f x).length = size) (hone : ∀ u ∈ flat f l, u.oneCell' = true) (hv : a.eval s = v) (hy : a.eval y = .slice A l.length c)
    (hst : St J (row e size v 0 [] :: M) w) (hc : Cells J A (flat f l)) (hl : l.length ≤ maxLen) (hb : l.length * bytes ≤ 140737488355328)
    (h : ∀ v' J' w', J.le J' → St J' M w' → SlC J' f v' l → K (a.put o.dst v') w') : wpOp P ops Q i K a w := by
  refine wpOp_step ho (fun K' hK' => ?_)
  refine step_append_src w hgd s y t t hop 0 e i0 z size bytes ht hi hz hsize hby hzs v 0 [] hv (show World.ownsRow _ 0 e size v 0 [] from hst.head) _ l.length (flat f l) hy (hc.src hst (flat_len hf l) h1 ht c hone) (by omega) (by simpa using hb) (Nat.zero_le _) ?_
  intro v' w' hown hgrow hat
  rw [Nat.zero_add, List.nil_append] at hown
  obtain ⟨A', c', rfl⟩ := own_form hown
  have hcap := (own_cap hown).2
  obtain ⟨J', hle, hs, hc'⟩ := (hst.grown hgrow hown hat).freezeRow
  exact hK' _ _ (h _ J' _ hle hs ⟨A', c', rfl, hc', hcap⟩)
end
end Go.Proofs.Ytddopbbmgpnjjaa
