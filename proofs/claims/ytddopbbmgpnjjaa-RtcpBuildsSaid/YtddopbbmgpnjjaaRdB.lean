/- regions that join what several calls answer. -/
import Derived.Test.YtddopbbmgpnjjaaRdA
namespace Go.Proofs.Ytddopbbmgpnjjaa
open Go.RowKit
set_option linter.unusedSimpArgs false

def roCd (x : Nat × Nat × List UInt8) : Cd := ⟨x.1, x.2.1, RoB x.2.2⟩
theorem map_i (l : List (Nat × Nat × List UInt8)) : (l.map roCd).map (·.i) = l.map (·.1) := by rw [List.map_map]; rfl
theorem map_d (l : List (Nat × Nat × List UInt8)) : (l.map roCd).map (·.d) = l.map (·.2.1) := by rw [List.map_map]; rfl
section
variable {P : Program} {ops : Array Oper} {Q : Exit → Act → World → Prop} {md : Region.Mode} {S : World → Prop}
theorem anyH_ro {I : Img} {M : List Res} {a0 : Act} {L : Array Bool} {l : List (Nat × Nat × List UInt8)} {w0 : World} (fuel : Nat)
    (hok : setOk md ops L (l.map (·.1)) = true) (hnd : (l.map (·.2.1)).Nodup) (hni : (l.map (·.1)).Nodup)
    (hS : ∀ J w, I.le J → St J M w → S w) (hst : St I M w0)
    (hstep : ∀ c ∈ l, CdStep P ops Q I M a0 (l.map (·.2.1)) (roCd c))
    (hend : ∀ (x : Nat → Value) J w, I.le J → St J M w → (∀ c ∈ l, RoB c.2.2 (x c.2.1) J) → wpAnyH P md ops Q S fuel (setAll (fun _ => true) (l.map (·.1)) L) (Act.over a0 (l.map (·.2.1)) x) w) :
    wpAnyH P md ops Q S (fuel + l.length) L a0 w0 := by
  have h := anyH_set (P := P) (ops := ops) (Q := Q) (md := md) (S := S) (I := I) (M := M) (a0 := a0) (L := L) (cs := l.map roCd) (fuel := fuel) (w0 := w0) (by rw [map_i]; exact hok) (by rw [map_d]; exact hnd) (by rw [map_i]; exact hni) hS hst
    (fun c hc v J J' hl hv => by
      obtain ⟨y, _, rfl⟩ := List.mem_map.1 hc
      exact RoB.mono hv hl)
    (fun c hc => by
      obtain ⟨y, hy, rfl⟩ := List.mem_map.1 hc
      rw [map_d]
      exact hstep y hy)
    (fun x J w hle hs hx => by
      rw [map_i, map_d]
      exact hend x J w hle hs (fun c hc => hx (roCd c) (List.mem_map_of_mem hc)))
  rw [List.length_map] at h
  exact h
end
/-- new bytes, frozen -/
theorem newB_ro {J : Img} {M : List Res} {l : List UInt8} {e : Ending} {w' : World} (h : Ret J (NewB J M l) e w') : ∃ v J', e = .returned v ∧ J.le J' ∧ St J' M w' ∧ RoB l v J' := by
  obtain ⟨v, J1, M', rfl, _, hs, rfl, A, c, rfl, _, rfl⟩ := h
  obtain ⟨J2, hle, hs2, hb⟩ := hs.freezeRow
  exact ⟨_, J2, rfl, hle, hs2, A, c, rfl, hb⟩
end Go.Proofs.Ytddopbbmgpnjjaa
