/- a drawn region with effects in whatever order: by what holds while just some of them have come up. -/
import Derived.Test.YtddopbbmgpnjjaaSo
namespace Go.Proofs.Ytddopbbmgpnjjaa
open Go.RowKit
set_option linter.unusedSimpArgs false

section
variable {P : Program} {ops : Array Oper} {Q : Exit → Act → World → Prop} {md : Region.Mode} {S : World → Prop}
/-- number i waits for number j -/
def hangs (md : Region.Mode) (ops : Array Oper) (i j : Nat) : Bool := match ops[i]? with
  | some o => o.after.toList.any fun e => Region.binds md e && e.on == j
  | none => false
/-- **EFFECTS IN WHATEVER ORDER, BY WHAT HOLDS WHILE JUST SOME OF THEM HAVE COME UP.** -/
theorem anyH_inv {a0 : Act} {L : Array Bool} {fuel : Nat} {w0 : World} (is : List Nat) (dl : List Nat) (dst : Nat → Nat) (Inv : List Nat → (Nat → Value) → World → Prop)
    (hok : setOk md ops L is = true) (hni : is.Nodup) (hdl : ∀ i ∈ is, dst i ∈ dl)
    (hmem : ∀ d d' x w, (∀ i, i ∈ d ↔ i ∈ d') → Inv d x w → Inv d' x w) (hS : ∀ d x w, Inv d x w → S w)
    (h0 : Inv [] (fun d => a0.tmps.getD d undef) w0)
    (hstep : ∀ i ∈ is, ∀ (d : List Nat) (x : Nat → Value) (w : World), i ∉ d → (∀ j ∈ d, j ∈ is) → (∀ j ∈ is, hangs md ops i j = true → j ∈ d) → Inv d x w →
      ∀ K : Act → World → Prop, Hid (∀ v w', Inv (i :: d) (upd x (dst i) v) w' → K ((Act.over a0 dl x).put (some (dst i)) v) w') → wpOp P ops Q i K (Act.over a0 dl x) w)
    (hend : ∀ (x : Nat → Value) w, Inv is x w → wpAnyH P md ops Q S fuel (setAll (fun _ => true) is L) (Act.over a0 dl x) w) :
    wpAnyH P md ops Q S (fuel + is.length) L a0 w0 := by
  have hun : ∀ k ∈ is, L.getD k true = false := by
    have h := hok
    unfold setOk at h
    rw [Bool.and_eq_true] at h
    exact setChk_un is [] h.1
  have key : ∀ (n : Nat) (rem done : List Nat), rem.length = n → (done ++ rem).Perm is → ∀ (x : Nat → Value) w, Inv done x w →
      wpAnyH P md ops Q S (fuel + n) (setAll (fun _ => true) done L) (Act.over a0 dl x) w := by
    intro n
    induction n with
    | zero =>
      intro rem done hl hp x w hI
      have : rem = [] := List.length_eq_zero_iff.1 hl
      subst this
      rw [List.append_nil] at hp
      have e : setAll (fun _ => true) done L = setAll (fun _ => true) is L := setAll_ext (fun j => hp.mem_iff) (fun _ _ => rfl)
      rw [e]
      exact hend x w (hmem _ _ x w (fun _ => hp.mem_iff) hI)
    | succ n ih =>
      intro rem done hl hp x w hI
      have hmm : ∀ c, c ∈ is ↔ c ∈ done ∨ c ∈ rem := fun c => by rw [← hp.mem_iff, List.mem_append]
      have hnp : (done ++ rem).Nodup := hp.nodup_iff.2 hni
      obtain ⟨c0, r0, hr0⟩ : ∃ c r, rem = c :: r := by
        cases rem with
        | nil => cases hl
        | cons c r => exact ⟨c, r, rfl⟩
      have hc0 : c0 ∉ done := by
        intro h
        rw [hr0, List.nodup_append] at hnp
        exact hnp.2.2 _ h _ (by simp) rfl
      have hsub : ∀ i ∈ done, i ∈ is := fun i hi => (hmm i).2 (.inl hi)
      obtain ⟨hk, hj⟩ := set_ready hok hsub (k := c0) ((hmm c0).2 (.inr (by rw [hr0]; exact List.mem_cons_self ..))) hc0
      refine ⟨fun h => (by obtain ⟨m, hm⟩ := hk; rw [h] at hm; cases hm), fun j hjr => ?_⟩
      obtain ⟨hji, hjd⟩ := hj j hjr
      have hcr : j ∈ rem := ((hmm j).1 hji).resolve_left hjd
      obtain ⟨r1, r2, hr⟩ := List.append_of_mem hcr
      subst hr
      have hp2 : ((j :: done) ++ (r1 ++ r2)).Perm is := by
        refine List.Perm.trans ?_ hp
        have h1 : (done ++ (r1 ++ j :: r2)).Perm (done ++ (j :: (r1 ++ r2))) := List.Perm.append_left done List.perm_middle
        exact (List.perm_middle.symm).trans h1.symm
      refine hstep j hji done x w hjd hsub (fun m hm hh => ?_) hI _ (Lib.hid fun v w' hI' => ?_)
      · obtain ⟨_, o, ho, hall⟩ := mem_ready.1 hjr
        unfold hangs at hh
        rw [ho] at hh
        simp only [List.any_eq_true, Bool.and_eq_true, beq_iff_eq] at hh
        obtain ⟨e, he, hb, heq⟩ := hh
        have h6 := hall e (by simpa using he) hb
        apply Classical.byContradiction
        intro hnd
        rw [heq, getD_mark hnd, unlisted (hun m hm)] at h6
        cases h6
      · refine ⟨hS _ _ _ hI', ?_⟩
        rw [over_put (hdl j hji)]
        have e : (setAll (fun _ => true) done L).setIfInBounds j true = setAll (fun _ => true) (j :: done) L := by
          have e1 : (setAll (fun _ => true) done L).setIfInBounds j true = setAll (fun _ => true) (done ++ [j]) L := by
            unfold setAll
            rw [List.foldl_append]
            rfl
          rw [e1]
          exact setAll_ext (fun k => by simp [or_comm]) (fun _ _ => rfl)
        rw [e]
        exact ih (r1 ++ r2) (j :: done) (by simp at hl ⊢; omega) hp2 (upd x (dst j) v) w' hI'
  have := key is.length is [] rfl (by simp) (fun d => a0.tmps.getD d undef) w0 h0
  rw [← over_self] at this
  exact this
end
end Go.Proofs.Ytddopbbmgpnjjaa
