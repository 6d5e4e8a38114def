/- a range over a function, in the words of St: the loop's record and the block for deferred calls are owned blocks. -/
import Derived.Test.YtddopbbmgpnjjaaMo
import Derived.RangeFuncNested
import Derived.RangeFuncBound
import Derived.RangeFuncCalls
import Derived.RangeFuncLeaves
namespace Go.Proofs.Ytddopbbmgpnjjaa
open Go.RowKit
set_option linter.unusedSimpArgs false

/-- a block of whatever kind, owned -/
def obk (g : Nat) (o : Obj) : Res where
  blk := some g
  ok w := w.heap[g]? = some o
  loc _ _ h hb := (hb g rfl).trans h
  lt w h b hb := by injection hb with hb; subst hb; exact (Array.getElem?_eq_some_iff.1 h).1
section
variable {I : Img} {M : List Res} {w : World} {g : Nat} {o o' : Obj} {a b c d : Res}
theorem St.putOb (h : St I (obk g o :: M) w) (o' : Obj) : St I (obk g o' :: M) (w.putObj g o') :=
  h.turn rfl rfl rfl (fun _ _ hne => World.putObj_heap_other (fun e => hne (by rw [e]; rfl))) (World.putObj_heap_same (Array.getElem?_eq_some_iff.1 h.head).1) (fun _ hb => .inl hb)
theorem St.allocOb (h : St I M w) (o : Obj) : St I (obk w.heap.size o :: M) (w.alloc o) :=
  St.more (w := w) (h.grow _) (heap_alloc_new w _) (fun b hb => by injection hb with hb; subst hb; simp) h
/-- the two blocks that a loop lays -/
theorem St.enterLoop (h : St I M w) (o : Obj) : St I (obk (w.heap.size + 1) o :: obk w.heap.size (.deferred (some [])) :: M) ((w.alloc (.deferred (some []))).alloc o) := by
  have h2 := (h.allocOb (.deferred (some []))).allocOb o
  rw [World.size_alloc] at h2
  exact h2
end
section
variable {P : Program}
/-- **A RANGE OVER A FUNCTION, OUT OF WHOSE ROUNDS NO WAY LEADS BUT THEIR END.** X o s: what holds while the loop's record reads o; a round turns s by `step`, the iterator turns it as it goes. -/
theorem range_wp {α σ : Type} (ok : σ → α → Prop) (step : σ → α → σ) (s0 : σ) {g : Operand} {ps : Array Tmp} {assign body : Code} {Q : Exit → Act → World → Prop} {a : Act} {w : World} {gf : Nat} {lb : Array Value}
    (hg : a.eval g = .func (.func gf) #[] lb) (eg : ∀ args w, (callFunc gf args).run P w = .ok (.enter gf args) w) {encs : α → Array Value} (hps : ∀ x, (encs x).size = ps.size)
    (X : Obj → σ → World → Prop) (hX : ∀ o pre W, X o pre W → W.heap[w.heap.size + 1]? = some o) (hput : ∀ o o' pre W, X o pre W → X o' pre (W.putObj (w.heap.size + 1) o'))
    (h0 : ∀ o, X o s0 ((w.alloc (.deferred (some []))).alloc o))
    (a₁ : α → Act) (hassign : ∀ (l : Nat) (x : α) (W : World) (K : Act → World → Prop), K (a₁ x) W → assign.wpIn (Fence.wide.inRound l) 0 P (Exit.then K (fun _ _ _ => False)) { tmps := (ps.zip (encs x)).foldl (fun t (p, v) => t.setIfInBounds p v) a.tmps, defers := [] } W)
    (hbody : ∀ (o : Obj) (pre : σ) (x : α) (W : World), X o pre W → ok pre x → body.wpIn (Fence.wide.inRound (w.heap.size + 1)) 0 P (fun e _ W' => e = .normal ∧ X o (step pre x) W') (a₁ x) W)
    (S : σ → Prop)
    (hiter : ∀ (o : Obj), (∀ (pre : σ) (x : α) (W : World), X o pre W → ok pre x → YieldAt Fence.wide 0 P (w.heap.size + 1) (encs x) W fun e W' => e = .returned (.bool true) ∧ X o (step pre x) W') →
      ∀ W, X o s0 W → CallsIn Fence.wide 0 P gf (#[.func (.yield (w.heap.size + 1)) #[] #[]] ++ lb) W fun e W' => (∃ v, e = .returned v) ∧ ∃ xs, S xs ∧ X o xs W')
    (hdone : ∀ (o : Obj) (xs : σ) (W : World), S xs → X o xs W → Q .normal { a with defers := { target := .collected w.heap.size, args := #[] } :: a.defers } W) :
    (Code.rangeFunc g ps assign body).wp P Q a w := by
  refine (wpIn_wide (n := 0)).1 (wpIn_rangeFunc ?_)
  intro fn _
  obtain ⟨rec, hrec⟩ : ∃ rec : LoopState → Loop, rec = fun st => { state := st, pending := none, fn, tmps := a.tmps, params := ps, assign, body, defers := w.heap.size } := ⟨_, rfl⟩
  refine ⟨w.heap.size + 1, [{ target := .collected w.heap.size, args := #[] }], (w.alloc (.deferred (some []))).alloc (.loop (rec .ready)), { target := .fn (.func gf) lb, args := #[.func (.yield (w.heap.size + 1)) #[] #[]] }, (w.alloc (.deferred (some []))).alloc (.loop (rec .ready)), gf,
    #[.func (.yield (w.heap.size + 1)) #[] #[]] ++ lb, (w.alloc (.deferred (some []))).alloc (.loop (rec .ready)), ?_, ?_, ?_, ?_, (fun h => by cases h), ?_⟩
  · rw [hrec]; exact run_enterLoop_outer _ _ _ _ _
  · simp only [resolve, hg]
    simp [go_sem]
  · intro f' hf'; simp [Target.leads] at hf'; subst hf'; trivial
  · simp [invoke, go_sem, eg]
  · refine (hiter (.loop (rec .ready)) ?_ _ (h0 _)).mono ?_
    · intro pre x W hx hok
      have hl := hX _ _ _ hx
      have hy := run_yield (P := P) (args := encs x) hl (by rw [hrec]; exact hps x)
      rw [hrec] at hy
      refine ⟨fn, _, assign, body, hy, roundIn_of_wpIn trivial (hassign _ x W _ ?_)⟩
      clear hy
      refine ⟨_, run_beginRound hl (by rw [hrec]), ?_⟩
      have hx2 : X (.loop { rec .ready with state := .busy }) pre (W.putObj (w.heap.size + 1) (.loop { rec .ready with state := .busy })) := hput _ _ _ _ hx
      refine wpIn_mono (hbody _ pre x _ hx2 hok) ?_
      rintro e a3 W3 ⟨rfl, hx3⟩
      have hl3 := hX _ _ _ hx3
      have hr := run_endRound (P := P) none hl3
      have e2 : ({ { rec .ready with state := .busy } with state := if (none : Option Code).isNone then .ready else .done, pending := none } : Loop) = rec .ready := by rw [hrec]; rfl
      rw [e2] at hr
      exact ⟨_, _, hr, rfl, hput _ _ _ _ hx3⟩
    · rintro e W2 ⟨⟨v, rfl⟩, xs, hS, hx⟩
      have hl := hX _ _ _ hx
      have he := run_endLoop (P := P) hl (by rw [hrec]; simp)
      have e3 : (rec .ready).pending = none := by rw [hrec]
      rw [e3] at he
      exact ⟨none, _, he, hdone _ xs _ hS (hput _ _ _ _ hx)⟩
end
end Go.Proofs.Ytddopbbmgpnjjaa
