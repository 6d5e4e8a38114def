/- for '..UptoSaid': what the bound gives; slices opened with their bulk; the row's step with reach, shape and bound. -/
import Derived.Test.YtpbbincgddmbiaaOpen
import Derived.Deep.CondSized
import Derived.HandedShaped
namespace Go.Proofs.Ytpbbincgddmbiaa
open Go.ChangeShapes Go.WideShapes Go.ChangeAt Go.RowKit Go.Joins Go.Deep

theorem bulk_one {H : Type} (d : DataW H) : 1 ≤ Rows.uptoBulk d := by
  cases d with
  | lit l => cases l <;> simp [Rows.uptoBulk]
  | nil => simp [Rows.uptoBulk]
  | ptr d => simp [Rows.uptoBulk]
  | slice elems spare => simp [Rows.uptoBulk]
  | agg parts => simp [Rows.uptoBulk]
  | iface t d => simp [Rows.uptoBulk]
  | map entries => simp [Rows.uptoBulk]
  | held h => simp [Rows.uptoBulk]
theorem bulk_of {H : Type} {l : List (DataW H)} (hk : Rows.uptoSmall H l = true) : Rows.uptoBulkAll l ≤ 1048576 := of_decide_eq_true hk
/-- a measure, summed -/
def sumOf {α : Type} (mu : α → Nat) : List α → Nat
  | [] => 0
  | x :: r => mu x + sumOf mu r
theorem sum_bulk {H : Type} {α : Type} {mu : α → Nat} : ∀ (l : List α) (ds : List (DataW H)), l.length = ds.length → (∀ i (h1 : i < l.length) (h2 : i < ds.length), mu l[i] ≤ Rows.uptoBulk ds[i]) → sumOf mu l ≤ Rows.uptoBulkAll ds
  | [], ds, _, _ => Nat.zero_le _
  | x :: r, [], h, _ => by simp at h
  | x :: r, d :: ds, h, hh => by
    have h1 := hh 0 (by simp) (by simp)
    have h2 := sum_bulk r ds (by simpa using h) (fun i h1 h2 => hh (i + 1) (by simpa using h1) (by simpa using h2))
    simp only [List.getElem_cons_zero] at h1
    simp only [sumOf, Rows.uptoBulkAll]
    omega
section
variable {H : Type} {enc : TypeId × Value → H} {P : Program} {w : World} {base : Nat} {held : Bool}
theorem open_rowsB {α : Type} {mu : α → Nat} {t e size by_ : Nat} {El : Img → List Value → α → Prop} (ht : P.underlying t = some (.slice e)) (hcell : P.cellsOf e = size) (hby : P.bytesOf e = by_) (h0 : 0 < size) (h1 : 0 < by_)
    (hel : ∀ (fuel : Nat) (cs : List Value) (x : DataW H × List MemPlace), DataW.trod enc P w base (fun _ => true) held fuel e cs = some x → Fits P e x.1 → ∃ y, El (Img.of w) cs y ∧ mu y ≤ Rows.uptoBulk x.1)
    {fuel : Nat} {cs : List Value} {x : DataW H × List MemPlace} (h : DataW.trod enc P w base (fun _ => true) held fuel t cs = some x) (hF : Fits P t x.1) :
    ∃ (A : Option Addr) (c : Nat) (ys : List α), cs = [.slice A ys.length c] ∧ RowsOf (Img.of w) size El A ys ∧ ys.length * by_ ≤ 140737488351232 ∧ ys.length ≤ 140737488351232 ∧ ys.length ≤ c ∧ sumOf mu ys ≤ Rows.uptoBulk x.1 := by
  rcases open_slice ht h with ⟨rfl, rfl⟩ | ⟨a, len, cap, m, n, D, Pl, rfl, _, hlc, _, hm, rfl, hi⟩
  · exact ⟨none, 0, [], rfl, fun h0 => absurd h0 (by simp), by simp, Nat.zero_le _, Nat.le_refl _, Nat.zero_le _⟩
  · simp only [if_true] at hm
    obtain ⟨hsz, hfe⟩ := fits_slice ht hF
    rw [hby] at hsz
    simp only [List.length_map, List.length_range, reachBytes] at hsz
    have hex : ∀ i : Fin len, ∃ y : α, (∃ cs' g o, a = ⟨g, o, none⟩ ∧ El (Img.of w) cs' y ∧ cs'.length = size ∧ ∀ j (h : j < cs'.length), (Img.of w).cell? ⟨g, o + i.1 * size + j, none⟩ = some cs'[j]) ∧ mu y ≤ Rows.uptoBulk (D i.1) := by
      intro i
      obtain ⟨cs', hc, ht'⟩ := hi i.1 (by omega)
      obtain ⟨y, hy, hmu⟩ := hel _ _ _ ht' (hfe _ (List.mem_map.2 ⟨i.1, List.mem_range.2 i.2, rfl⟩))
      obtain ⟨_, hcl, hat⟩ := World.cells?_some hc
      rw [hcell] at hat hcl
      have hsp : a.spot = none := by
        obtain ⟨cs0, hc0, ht0⟩ := hi 0 (by have := i.2; omega)
        obtain ⟨_, hcl0, hat0⟩ := World.cells?_some hc0
        rw [hcell] at hat0 hcl0
        have := hat0 0 (by omega)
        rw [List.getElem?_eq_getElem (by omega)] at this
        simp only [Nat.zero_mul, Addr.add, if_true] at this
        exact World.cell?_spot this
      obtain ⟨g, o, spot⟩ := a
      simp only at hsp
      subst hsp
      refine ⟨y, ⟨cs', g, o, rfl, hy, hcl, fun j hj => ?_⟩, hmu⟩
      have := hat j (by omega)
      rw [add_at, add_at, List.getElem?_eq_getElem hj] at this
      rw [Img.of_cell]; exact this
    have hlen : len * by_ ≤ 140737488351232 := by
      have : len * by_ ≤ (len + (m - len)) * by_ := Nat.mul_le_mul_right _ (by omega)
      omega
    refine ⟨some a, cap, List.ofFn fun i : Fin len => Classical.choose (hex i), by rw [List.length_ofFn], ?_, by rw [List.length_ofFn]; exact hlen, by rw [List.length_ofFn]; exact Nat.le_trans (Nat.le_mul_of_pos_right _ h1) hlen, by rw [List.length_ofFn]; omega, ?_⟩
    · intro h0
      rw [List.length_ofFn] at h0
      obtain ⟨⟨_, g, o, e, _⟩, _⟩ := Classical.choose_spec (hex ⟨0, h0⟩)
      refine ⟨g, o, by rw [e], fun i hi' => ?_⟩
      rw [List.length_ofFn] at hi'
      obtain ⟨⟨cs', g', o', e', hop⟩, _⟩ := Classical.choose_spec (hex ⟨i, hi'⟩)
      rw [e] at e'
      injection e' with e1 e2
      subst e1 e2
      rw [List.getElem_ofFn]
      exact ⟨cs', hop⟩
    · refine Nat.le_trans (sum_bulk (mu := mu) _ ((List.range len).map D) (by simp) (fun i h1 h2 => ?_)) (by simp only [Rows.uptoBulk]; omega)
      rw [List.getElem_ofFn, List.getElem_map, List.getElem_range]
      rw [List.length_ofFn] at h1
      exact (Classical.choose_spec (hex ⟨i, h1⟩)).2
end
section
variable {H : Type} {enc : TypeId × Value → H}
/-- the row's step: reach, shape and the bound are handed on -/
theorem cond_shaped {a : Assume} {C : Checked} {os : Os} {f : FuncId} {fn : Func} {s : OpenSpec} {k : (H : Type) → List (DataW H) → Bool} (hk : s.cond = some k) {F : Stop.Interp} {conds : List PathCond} {apart fresh handsOn again : Bool}
    (own : ownKnob C.prog.godebug = none) (started : os.Started) (noInit : C.prog.inits.idxOf? f = none) (hfn : C.prog.funcs[f]? = some fn)
    (witness : ∃ (w : World) (tape : Tape) (i : Input), w.os = os ∧ (w.forCall tape i).Shaped C.prog ∧ i.vars = [] ∧ Input.okWide C.prog (w.forCall tape i) .any w.heap.size f i ∧
      s.pre6 enc C.prog fn conds apart (w.forCall tape i).memory i.args ∧ a.holds C.prog (lone (Frame.enter C.prog f i.args .normal) [] (w.forCall tape i)))
    (contract : ∀ (W : World) (base : Nat) (args : Array Value) (ds gs : List (DataW H)) (before : List MemPlace),
      (∀ (j : Nat) t v, fn.params[j]? = some t → args[j]? = some v → Value.okWide C.prog W .any base t v) →
      DataW.Whole enc C.prog fn.params.toList s.vars apart W args.toList ds gs before → k H (ds ++ gs) = true →
      (DataW.weightsEach C.prog (fn.params.toList ++ s.bare.plain.varTypes C.prog) (ds ++ gs)).all (· ≤ reachBytes) = true → W.ShapedOpen C.prog →
      Calls C.prog f args W fun e W' => ∃ v, e = .returned v ∧ (s.at F).post enc C.prog fn apart fresh handsOn again W args v W') :
    ReturnsInHanded a C os f .any (s.pre6 enc C.prog fn conds apart) ((s.at F).post enc C.prog fn apart fresh handsOn again) := by
  refine returnsInHanded_of_calls own started noInit witness ?_
  intro w tape i _ hsh _ hok hpre _
  obtain ⟨_, _, _, fn', hfn', _, _, _, _, hval⟩ := hok
  have e : fn' = fn := Option.some.inj (hfn'.symm.trans hfn)
  subst e
  obtain ⟨ds, gs, before, hw, _, hkk⟩ := (OpenSpec.pre_some hk conds apart _ _).1 hpre.1
  have hw' := DataW.Whole.of_heap (w' := w.forCall tape i) (by rfl) hw
  refine (contract (w.forCall tape i) w.heap.size i.args ds gs before hval hw' hkk (hpre.2.weights hw) hsh).mono fun e W' ⟨v, he, hp⟩ => ?_
  subst he
  exact ChangeSpec.post_blind hp
end
end Go.Proofs.Ytpbbincgddmbiaa
