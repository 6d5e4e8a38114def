/- a drawn region in which several calls make new memory, in whatever order: what each answers is frozen; at the end stands one frame. -/
import Derived.Test.YtddopbbmgpnjjaaMo
import Derived.Deep.RegionHeld
namespace Go.Proofs.Ytddopbbmgpnjjaa
open Go.RowKit
set_option linter.unusedSimpArgs false

section
variable {α : Type}
def setAll (x : Nat → α) (ds : List Nat) (t : Array α) : Array α := ds.foldl (fun t d => t.setIfInBounds d (x d)) t
theorem setAll_size (x : Nat → α) : ∀ (ds : List Nat) (t : Array α), (setAll x ds t).size = t.size
  | [], _ => rfl
  | d :: ds, t => by
    have := setAll_size x ds (t.setIfInBounds d (x d))
    rw [Array.size_setIfInBounds] at this
    exact this
theorem setAll_get (x : Nat → α) : ∀ (ds : List Nat) (t : Array α) (j : Nat), (setAll x ds t)[j]? = if j ∈ ds ∧ j < t.size then some (x j) else t[j]?
  | [], t, j => by simp [setAll]
  | d :: ds, t, j => by
    have h := setAll_get x ds (t.setIfInBounds d (x d)) j
    rw [Array.size_setIfInBounds] at h
    have e : setAll x (d :: ds) t = setAll x ds (t.setIfInBounds d (x d)) := rfl
    rw [e, h, Array.getElem?_setIfInBounds]
    by_cases h1 : j ∈ ds ∧ j < t.size
    · rw [if_pos h1, if_pos ⟨List.mem_cons_of_mem _ h1.1, h1.2⟩]
    · rw [if_neg h1]
      by_cases h2 : d = j
      · subst h2
        by_cases h3 : d < t.size
        · simp [h3]
        · simp [h3]
      · rw [if_neg h2]
        by_cases h3 : j ∈ ds
        · simp [h3, h1]
          intro hlt
          exact absurd ⟨h3, hlt⟩ h1
        · simp [h3, Ne.symm h2]
theorem setAll_ext {x y : Nat → α} {ds es : List Nat} {t : Array α} (h1 : ∀ j, j ∈ ds ↔ j ∈ es) (h2 : ∀ j ∈ ds, x j = y j) : setAll x ds t = setAll y es t := by
  apply Array.ext_getElem?
  intro j
  rw [setAll_get, setAll_get]
  by_cases h : j ∈ ds
  · simp [h, (h1 j).1 h, h2 j h]
  · have : j ∉ es := fun h' => h ((h1 j).2 h')
    simp [h, this]
end
def upd (x : Nat → Value) (d : Nat) (v : Value) : Nat → Value := fun j => if j = d then v else x j
def Act.over (a : Act) (ds : List Nat) (x : Nat → Value) : Act := { a with tmps := setAll x ds a.tmps }
theorem over_self (a : Act) (ds : List Nat) : a = Act.over a ds (fun d => a.tmps.getD d undef) := by
  cases a with
  | mk t f =>
    show Act.mk t f = Act.mk (setAll _ ds t) f
    have : setAll (fun d => t.getD d undef) ds t = t := by
      apply Array.ext_getElem?
      intro j
      rw [setAll_get]
      split
      · rename_i h; simp [h.2]
      · rfl
    rw [this]
theorem over_put {a : Act} {ds : List Nat} {x : Nat → Value} {d : Nat} {v : Value} (hd : d ∈ ds) : (Act.over a ds x).put (some d) v = Act.over a ds (upd x d v) := by
  show Act.mk ((setAll x ds a.tmps).setIfInBounds d v) a.defers = Act.mk (setAll _ ds a.tmps) a.defers
  have : (setAll x ds a.tmps).setIfInBounds d v = setAll (upd x d v) ds a.tmps := by
    apply Array.ext_getElem?
    intro j
    rw [Array.getElem?_setIfInBounds, setAll_get, setAll_get, setAll_size]
    by_cases h : d = j
    · subst h
      by_cases h3 : d < a.tmps.size
      · simp [h3, hd, upd]
      · simp [h3]
    · have h' : ¬ j = d := fun e => h e.symm
      simp [h, upd, h']
  rw [this]
/-- an operation, the slot that it fills, what its value is -/
structure Cd where
  i : Nat
  d : Nat
  T : Value → Img → Prop
def setChk (md : Region.Mode) (ops : Array Oper) (L : Array Bool) : List Nat → List Nat → Bool
  | _, [] => true
  | prev, i :: is => !(L.getD i true) && ((match ops[i]? with | some o => o.after.toList.all (fun e => !(Region.binds md e) || (L.getD e.on false || prev.contains e.on)) | none => false) && setChk md ops L (i :: prev) is)
/-- each of them waits for what has come up and for those ahead of it alone; whatever else has not come up waits for all of them, or for something else that has not -/
def setOk (md : Region.Mode) (ops : Array Oper) (L : Array Bool) (is : List Nat) : Bool :=
  setChk md ops L [] is &&
  (List.range ops.size).all (fun j => L.getD j true || is.contains j || (match ops[j]? with
    | some o => is.all (fun i => o.after.toList.any fun e => Region.binds md e && e.on == i) || o.after.toList.any (fun e => Region.binds md e && (!(L.getD e.on false) && !(is.contains e.on)))
    | none => true))
section
variable {P : Program} {ops : Array Oper} {Q : Exit → Act → World → Prop} {md : Region.Mode} {S : World → Prop}
def CdStep (P : Program) (ops : Array Oper) (Q : Exit → Act → World → Prop) (I : Img) (M : List Res) (a0 : Act) (ds : List Nat) (c : Cd) : Prop :=
  ∀ (x : Nat → Value) (J : Img) (w : World), I.le J → St J M w → ∀ K : Act → World → Prop, Hid (∀ v J' w', J.le J' → St J' M w' → c.T v J' → K ((Act.over a0 ds x).put (some c.d) v) w') → wpOp P ops Q c.i K (Act.over a0 ds x) w
theorem CdStep.mk {I : Img} {M : List Res} {a0 : Act} {ds : List Nat} {c : Cd} {o : Oper} (ho : ops[c.i]? = some o) (hg : o.guard = none)
    (h : ∀ (x : Nat → Value) (J : Img) (w : World), I.le J → St J M w → ∀ K : Act → World → Prop, Hid (∀ v J' w', J.le J' → St J' M w' → c.T v J' → K ((Act.over a0 ds x).put (some c.d) v) w') → o.wp P (Act.over a0 ds x) w K Q) : CdStep P ops Q I M a0 ds c := by
  intro x J w hle hst K hK
  refine wpOp_step ho (fun K' hK' => ?_)
  have hw : Region.wanted o (yielded ops (Act.over a0 ds x).tmps) = true := by unfold Region.wanted; rw [hg]
  rw [if_pos hw]
  exact h x J w hle hst K' (Lib.hid fun v J' w' h1 h2 h3 => hK' _ _ (hK.out v J' w' h1 h2 h3))
/-- a call among them -/
theorem CdStep.call {I : Img} {M : List Res} {a0 : Act} {ds : List Nat} {c : Cd} {o : Oper} {f : Nat} {xs : Array Operand} {ts : Array TypeId} {args : Array Value} (ho : ops[c.i]? = some o) (hg : o.guard = none) (hd : o.dst = some c.d)
    (hop : o.op = .call { callee := .value (.func f), args := xs, argTypes := ts }) (eg : ∀ args w, (callFunc f args).run P w = .ok (.enter f args) w) (ha : ∀ x, xs.map (Act.over a0 ds x).eval = args)
    (hc : ∀ J w, I.le J → St J M w → Calls P f args w (fun e w' => ∃ v J', e = .returned v ∧ J.le J' ∧ St J' M w' ∧ c.T v J')) : CdStep P ops Q I M a0 ds c := by
  refine CdStep.mk ho hg (fun x J w hle hs K hK => ?_)
  have hr : (execOp (Act.over a0 ds x).eval o).run P w = .ok (.enter f args) w := by
    unfold execOp
    simp only [hop, resolve, ha x, Act.eval, Deferred.ofValue, invoke, Sem.run_bind, Sem.run_pure, Result.andThen_ok, Array.append_empty, Array.empty_append, eg]
  unfold Oper.wp
  rw [hr]
  simp only [Oper.upon]
  refine (hc J w hle hs).mono fun e w' he => ?_
  obtain ⟨v, J', rfl, h1, h2, h3⟩ := he
  have := hK.out v J' w' h1 h2 h3
  rw [hd]
  exact this
/-- a literal of bytes, or what else makes memory without a call -/
theorem CdStep.run {I : Img} {M : List Res} {a0 : Act} {ds : List Nat} {c : Cd} {o : Oper} (ho : ops[c.i]? = some o) (hg : o.guard = none) (hd : o.dst = some c.d)
    (hc : ∀ x J w, I.le J → St J M w → ∃ v J' w', (execOp (Act.over a0 ds x).eval o).run P w = .ok (.value v) w' ∧ J.le J' ∧ St J' M w' ∧ c.T v J') : CdStep P ops Q I M a0 ds c := by
  refine CdStep.mk ho hg (fun x J w hle hs K hK => ?_)
  obtain ⟨v, J', w', hr, h1, h2, h3⟩ := hc x J w hle hs
  unfold Oper.wp
  rw [hr]
  simp only [Oper.upon]
  have := hK.out v J' w' h1 h2 h3
  rw [hd]
  exact this
/-- a literal -/
theorem CdStep.lit {I : Img} {M : List Res} {a0 : Act} {ds : List Nat} {c : Cd} {o : Oper} {t : TypeId} {n : Nat} {parts : Array (Nat × Operand)} (ho : ops[c.i]? = some o) (hg : o.guard = none) (hd : o.dst = some c.d) (hop : o.op = .buildSlice t n parts)
    (hc : ∀ x J w, I.le J → St J M w → ∃ v J' w', (Instr.buildSlice t n (parts.map fun (i, y) => (i, (Act.over a0 ds x).eval y))).run P w = .ok v w' ∧ J.le J' ∧ St J' M w' ∧ c.T v J') : CdStep P ops Q I M a0 ds c := by
  refine CdStep.run ho hg hd (fun x J w hle hs => ?_)
  obtain ⟨v, J', w', hr, h⟩ := hc x J w hle hs
  refine ⟨v, J', w', ?_, h⟩
  unfold execOp
  simp only [hop, Sem.run_bind, hr, Result.andThen_ok, Sem.run_pure]
/-- a conversion that makes memory -/
theorem CdStep.conv {I : Img} {M : List Res} {a0 : Act} {ds : List Nat} {c : Cd} {o : Oper} {s t : TypeId} {y : Operand} {u : Value} (ho : ops[c.i]? = some o) (hg : o.guard = none) (hd : o.dst = some c.d) (hop : o.op = .convert s t y) (hu : ∀ x, (Act.over a0 ds x).eval y = u)
    (hc : ∀ J w, I.le J → St J M w → ∃ v J' w', (convert s t u).run P w = .ok v w' ∧ J.le J' ∧ St J' M w' ∧ c.T v J') : CdStep P ops Q I M a0 ds c := by
  refine CdStep.run ho hg hd (fun x J w hle hs => ?_)
  obtain ⟨v, J', w', hr, h⟩ := hc J w hle hs
  refine ⟨v, J', w', ?_, h⟩
  unfold execOp
  simp only [hop, hu x, Sem.run_bind, hr, Result.andThen_ok, Sem.run_pure]
theorem getD_mark {L : Array Bool} {is : List Nat} {j : Nat} {d : Bool} (h : j ∉ is) : (setAll (fun _ => true) is L).getD j d = L.getD j d := by
  rw [Array.getD_eq_getD_getElem?, Array.getD_eq_getD_getElem?, setAll_get, if_neg (fun h' => h h'.1)]
theorem getD_mark_in {L : Array Bool} {is : List Nat} {j : Nat} (h : j ∈ is) : (setAll (fun _ => true) is L).getD j true = true := by
  rw [Array.getD_eq_getD_getElem?, setAll_get]
  by_cases h2 : j < L.size
  · rw [if_pos ⟨h, h2⟩]; rfl
  · rw [if_neg (fun h' => h2 h'.2)]; simp [Array.getElem?_eq_none (Nat.le_of_not_lt h2)]
theorem unlisted {L : Array Bool} {j : Nat} (h : L.getD j true = false) : L.getD j false = false := by
  rcases Nat.lt_or_ge j L.size with h' | h'
  · simp [h'] at h ⊢; exact h
  · simp [Array.getElem?_eq_none h'] at h
theorem setChk_first {L : Array Bool} {done : List Nat} : ∀ (is prev : List Nat), setChk md ops L prev is = true → (∀ i ∈ prev, i ∈ done) → (∃ k ∈ is, k ∉ done) →
    ∃ k ∈ is, k ∉ done ∧ L.getD k true = false ∧ ∃ o, ops[k]? = some o ∧ ∀ e ∈ o.after, Region.binds md e = true → L.getD e.on false = true ∨ e.on ∈ done
  | [], _, _, _, ⟨_, h, _⟩ => by cases h
  | i :: is, prev, hc, hp, ⟨k, hk, hkd⟩ => by
    unfold setChk at hc
    rw [Bool.and_eq_true, Bool.and_eq_true] at hc
    obtain ⟨h1, h2, h3⟩ := hc
    by_cases hd : i ∈ done
    · have hk2 : k ∈ is := by
        rcases List.mem_cons.1 hk with rfl | h
        · exact absurd hd hkd
        · exact h
      obtain ⟨k2, h4, h5⟩ := setChk_first is (i :: prev) h3 (fun j hj => by
        rcases List.mem_cons.1 hj with rfl | h
        · exact hd
        · exact hp j h) ⟨k, hk2, hkd⟩
      exact ⟨k2, List.mem_cons_of_mem _ h4, h5⟩
    · refine ⟨i, List.mem_cons_self .., hd, by simpa using h1, ?_⟩
      cases ho : ops[i]? with
      | none => rw [ho] at h2; cases h2
      | some o =>
        rw [ho] at h2
        refine ⟨o, rfl, fun e he hb => ?_⟩
        have h4 := List.all_eq_true.1 h2 e (by simpa using he)
        rw [hb] at h4
        simp only [Bool.not_true, Bool.false_or, Bool.or_eq_true] at h4
        rcases h4 with h4 | h4
        · exact .inl h4
        · exact .inr (hp _ (by simpa using h4))
theorem setChk_un {L : Array Bool} : ∀ (is prev : List Nat), setChk md ops L prev is = true → ∀ k ∈ is, L.getD k true = false
  | [], _, _, _, h => by cases h
  | i :: is, prev, hc, k, hk => by
    unfold setChk at hc
    rw [Bool.and_eq_true, Bool.and_eq_true] at hc
    obtain ⟨h1, h2, h3⟩ := hc
    rcases List.mem_cons.1 hk with rfl | h
    · simpa using h1
    · exact setChk_un is _ h3 k h
/-- what comes up while not all of them have come up is one of them -/
theorem set_ready {L : Array Bool} {is done : List Nat} (hok : setOk md ops L is = true) (hsub : ∀ i ∈ done, i ∈ is) {k : Nat} (hk : k ∈ is) (hkd : k ∉ done) :
    (∃ m, m ∈ Region.ready md ops (setAll (fun _ => true) done L)) ∧ ∀ j ∈ Region.ready md ops (setAll (fun _ => true) done L), j ∈ is ∧ j ∉ done := by
  unfold setOk at hok
  rw [Bool.and_eq_true, List.all_eq_true] at hok
  obtain ⟨hr, hf⟩ := hok
  have hun := setChk_un is [] hr
  constructor
  · obtain ⟨m, _, hmd, h1, o, ho, hall⟩ := setChk_first (done := done) is [] hr (fun _ h => by cases h) ⟨k, hk, hkd⟩
    refine ⟨m, mem_ready.2 ⟨by rw [getD_mark hmd]; exact h1, o, ho, fun e he hb => ?_⟩⟩
    by_cases hd : e.on ∈ done
    · have h3 := hun _ (hsub _ hd)
      have h4 : e.on < L.size := by
        rcases Nat.lt_or_ge e.on L.size with h' | h'
        · exact h'
        · simp [Array.getElem?_eq_none h'] at h3
      rw [Array.getD_eq_getD_getElem?, setAll_get, if_pos ⟨hd, h4⟩]
      rfl
    · rw [getD_mark hd]; exact (hall e he hb).resolve_right hd
  · intro j hj
    obtain ⟨h1, o, ho, hall⟩ := mem_ready.1 hj
    have hjd : j ∉ done := fun h => by rw [getD_mark_in h] at h1; cases h1
    rw [getD_mark hjd] at h1
    refine ⟨?_, hjd⟩
    apply Classical.byContradiction
    intro hji
    have hlt : j < ops.size := (Array.getElem?_eq_some_iff.1 ho).1
    have h2 := hf j (List.mem_range.2 hlt)
    have h3 : is.contains j = false := by simpa using hji
    rw [h1, h3, ho] at h2
    simp only [Bool.false_or, Bool.or_eq_true, List.all_eq_true, List.any_eq_true, Bool.and_eq_true, beq_iff_eq, Bool.not_eq_true'] at h2
    rcases h2 with h2 | ⟨e, he, hb, h4, h5⟩
    · obtain ⟨e, he, hb, heq⟩ := h2 k hk
      have h6 := hall e (by simpa using he) hb
      rw [heq, getD_mark hkd, unlisted (hun k hk)] at h6
      cases h6
    · have h6 := hall e (by simpa using he) hb
      have h7 : e.on ∉ done := fun h => by have := hsub _ h; simp at h5; exact h5 this
      rw [getD_mark h7, h4] at h6
      cases h6
theorem anyH_set {I : Img} {M : List Res} {a0 : Act} {L : Array Bool} {cs : List Cd} {fuel : Nat} {w0 : World}
    (hok : setOk md ops L (cs.map (·.i)) = true) (hnd : (cs.map (·.d)).Nodup) (hni : (cs.map (·.i)).Nodup)
    (hS : ∀ J w, I.le J → St J M w → S w) (hst : St I M w0)
    (hT : ∀ c ∈ cs, ∀ v J J', J.le J' → c.T v J → c.T v J')
    (hstep : ∀ c ∈ cs, CdStep P ops Q I M a0 (cs.map (·.d)) c)
    (hend : ∀ (x : Nat → Value) J w, I.le J → St J M w → (∀ c ∈ cs, c.T (x c.d) J) → wpAnyH P md ops Q S fuel (setAll (fun _ => true) (cs.map (·.i)) L) (Act.over a0 (cs.map (·.d)) x) w) :
    wpAnyH P md ops Q S (fuel + cs.length) L a0 w0 := by
  have key : ∀ (n : Nat) (rem done : List Cd), rem.length = n → (done ++ rem).Perm cs → ∀ (x : Nat → Value) J w, I.le J → St J M w → (∀ c ∈ done, c.T (x c.d) J) →
      wpAnyH P md ops Q S (fuel + n) (setAll (fun _ => true) (done.map (·.i)) L) (Act.over a0 (cs.map (·.d)) x) w := by
    intro n
    induction n with
    | zero =>
      intro rem done hl hp x J w hle hs hT'
      have : rem = [] := List.length_eq_zero_iff.1 hl
      subst this
      rw [List.append_nil] at hp
      have e : setAll (fun _ => true) (done.map (·.i)) L = setAll (fun _ => true) (cs.map (·.i)) L := setAll_ext (fun j => (hp.map (·.i)).mem_iff) (fun _ _ => rfl)
      rw [e]
      exact hend x J w hle hs (fun c hc => hT' c (hp.mem_iff.2 hc))
    | succ n ih =>
      intro rem done hl hp x J w hle hs hT'
      have hmem : ∀ c, c ∈ cs ↔ c ∈ done ∨ c ∈ rem := fun c => by rw [← hp.mem_iff, List.mem_append]
      have hnp : ((done ++ rem).map (·.i)).Nodup := (hp.map (·.i)).nodup_iff.2 hni
      have hndp : ((done ++ rem).map (·.d)).Nodup := (hp.map (·.d)).nodup_iff.2 hnd
      obtain ⟨c0, r0, hr0⟩ : ∃ c r, rem = c :: r := by
        cases rem with
        | nil => cases hl
        | cons c r => exact ⟨c, r, rfl⟩
      have hc0 : c0.i ∉ done.map (·.i) := by
        intro h
        rw [hr0, List.map_append, List.nodup_append] at hnp
        exact hnp.2.2 _ h _ (by simp) rfl
      have hsub : ∀ i ∈ done.map (·.i), i ∈ cs.map (·.i) := fun i hi => by
        obtain ⟨c, hc, rfl⟩ := List.mem_map.1 hi
        exact List.mem_map_of_mem ((hmem c).2 (.inl hc))
      obtain ⟨hk, hj⟩ := set_ready hok hsub (k := c0.i) (List.mem_map_of_mem ((hmem c0).2 (.inr (by rw [hr0]; exact List.mem_cons_self ..)))) hc0
      refine ⟨fun h => (by obtain ⟨m, hm⟩ := hk; rw [h] at hm; cases hm), fun j hjr => ?_⟩
      obtain ⟨hji, hjd⟩ := hj j hjr
      obtain ⟨c, hc, rfl⟩ := List.mem_map.1 hji
      have hcr : c ∈ rem := ((hmem c).1 hc).resolve_left (fun h => hjd (List.mem_map_of_mem h))
      obtain ⟨r1, r2, hr⟩ := List.append_of_mem hcr
      subst hr
      have hp2 : ((done ++ [c]) ++ (r1 ++ r2)).Perm cs := by
        refine List.Perm.trans ?_ hp
        rw [List.append_assoc]
        exact List.Perm.append_left done (by simpa using (List.perm_middle (a := c) (l₁ := r1) (l₂ := r2)).symm)
      refine hstep c hc x J w hle hs _ (Lib.hid fun v J' w' hle' hs' hT2 => ?_)
      refine ⟨hS J' w' (hle.trans hle') hs', ?_⟩
      rw [over_put (List.mem_map_of_mem hc)]
      have e : (setAll (fun _ => true) (done.map (·.i)) L).setIfInBounds c.i true = setAll (fun _ => true) ((done ++ [c]).map (·.i)) L := by
        unfold setAll
        rw [List.map_append, List.foldl_append]
        rfl
      rw [e]
      refine ih (r1 ++ r2) (done ++ [c]) (by simp at hl ⊢; omega) hp2 (upd x c.d v) J' w' (hle.trans hle') hs' (fun c' hc' => ?_)
      rcases List.mem_append.1 hc' with h | h
      · have hne : c'.d ≠ c.d := fun he => by
          rw [List.map_append, List.nodup_append] at hndp
          exact hndp.2.2 _ (List.mem_map_of_mem h) _ (List.mem_map_of_mem (List.mem_append_right _ (List.mem_cons_self ..))) he
        show c'.T (if c'.d = c.d then v else x c'.d) J'
        rw [if_neg hne]
        exact hT c' ((hmem c').2 (.inl h)) _ _ _ hle' (hT' c' h)
      · rw [List.mem_singleton.1 h]
        show c.T (if c.d = c.d then v else x c.d) J'
        rw [if_pos rfl]
        exact hT2
  have := key cs.length cs [] rfl (by simp) (fun d => a0.tmps.getD d undef) I w0 (.refl I) hst (fun c hc => by cases hc)
  rw [← over_self] at this
  exact this
end
end Go.Proofs.Ytddopbbmgpnjjaa
