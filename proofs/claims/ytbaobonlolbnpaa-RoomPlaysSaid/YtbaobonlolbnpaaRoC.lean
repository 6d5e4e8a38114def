/- counts under names: the call's own map. -/
import Derived.Test.YtbaobonlolbnpaaRoB
import Derived.Maps.Views
import Derived.Maps.OwnOps
import Derived.Maps.OwnSet
namespace Go.Proofs.Ytbaobonlolbnpaa
open Go.RowKit Go.Maps
set_option linter.unusedSimpArgs false

/-- a map of the call's own -/
def mpr (b n : Nat) (D : DataW Unit) : Res where
  blk := some b
  ok w := w.ownsMap Try.prog 9 (plainElem Try.prog 3) b n D
  loc w w' h hb := by
    obtain ⟨es, clock, he, r⟩ := h
    exact ⟨es, clock, (hb b rfl).trans he, r⟩
  lt w h b' hb := by
    injection hb with hb
    subst hb
    exact h.lt
theorem St.mapMade {I : Img} {M : List Res} {w : World} (h : St I M w) : St I (mpr w.heap.size 0 (.map []) :: M) (w.alloc (.map #[] 0)) :=
  St.more (w := w) (h.grow _) (World.ownsMap_made w _ _ _) (fun b hb => by
    injection hb with hb
    subst hb
    simp) h
theorem St.mapTurned {I : Img} {M : List Res} {w w' : World} {b n n' : Nat} {D D' : DataW Unit} (h : St I (mpr b n D :: M) w) (hg : w.grownBy w' (some b)) (ho : w'.ownsMap Try.prog 9 (plainElem Try.prog 3) b n' D') : St I (mpr b n' D' :: M) w' :=
  h.turn hg.os hg.tape hg.output hg.block ho (fun _ hb => .inl hb)
abbrev key (s : ByteArray) : Lit := .string s.data.toList
def cnt (L : List ByteArray) (s : ByteArray) : Nat := (L.filter (fun x => x.toList == s.toList)).length
def dist : List ByteArray → List ByteArray
  | [] => []
  | x :: r => if (r.any (fun y => y.toList == x.toList)) = true then dist r else x :: dist r
/-- the map D counts the names of L -/
structure Cnt (D : DataW Unit) (L : List ByteArray) : Prop where
  tidy : Tidy D
  at_ : ∀ s, D.atKey (key s) (.lit (.int .i64 0)) = .lit (.int .i64 (cnt L s))
  has_ : ∀ s, has D (key s) = L.any (fun y => y.toList == s.toList)
  size_ : size D = (dist L).length
theorem Cnt.nil : Cnt (.map []) [] := ⟨tidy_empty, fun _ => rfl, fun _ => rfl, rfl⟩
theorem key_ne {x s : ByteArray} (h : (x.toList == s.toList) = false) : key s ≠ key x := by
  intro e
  simp only [key, Lit.string.injEq] at e
  rw [ByteArray.toList_eq, ByteArray.toList_eq] at h
  simp [e] at h
theorem key_eq {x s : ByteArray} (h : (x.toList == s.toList) = true) : key s = key x := by
  simp only [beq_iff_eq] at h
  rw [ByteArray.toList_eq, ByteArray.toList_eq] at h
  simp [key, h]
/-- one name more, in front -/
theorem Cnt.step {D : DataW Unit} {L : List ByteArray} (h : Cnt D L) (x : ByteArray) : Cnt (D.put (key x) (.lit (.int .i64 ((cnt L x : Int) + 1)))) (x :: L) := by
  have hk : WideAt.IsKeyLit (key x) := trivial
  refine ⟨h.tidy.put hk _, fun s => ?_, fun s => ?_, ?_⟩
  · cases hx : (x.toList == s.toList)
    · rw [atKey_put_other (key_ne hx), h.at_ s]
      simp [cnt, hx]
    · rw [key_eq hx, atKey_put_same h.tidy.isMap hk]
      have e : cnt L s = cnt L x := by
        simp only [beq_iff_eq] at hx
        simp [cnt, hx]
      simp only [cnt, List.filter_cons, hx, if_true, List.length_cons]
      have e' := e
      simp only [cnt] at e'
      rw [e']
      push_cast
      rfl
  · cases hx : (x.toList == s.toList)
    · rw [has_put_other (key_ne hx), h.has_ s]
      simp [hx]
    · rw [key_eq hx, has_put_same h.tidy.isMap hk]
      simp [hx]
  · rw [size_put h.tidy, h.has_ x, h.size_]
    simp only [dist]
    split <;> simp_all
end Go.Proofs.Ytbaobonlolbnpaa
