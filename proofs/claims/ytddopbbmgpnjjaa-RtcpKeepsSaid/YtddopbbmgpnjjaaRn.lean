/- a region that draws its order, in a round's frame: by the plain walk. -/
import Derived.Test.YtddopbbmgpnjjaaRg
import Derived.Test.YtddopbbmgpnjjaaLs
import Derived.OrdersIn
namespace Go.Proofs.Ytddopbbmgpnjjaa
open Go.RowKit
set_option linter.unusedSimpArgs false

/-- the normal end alone -/
def roundQ (Q : Exit → Act → World → Prop) : Exit → Act → World → Prop
  | .normal, a, w => Q .normal a w
  | _, _, _ => False
def noDefer (ops : Array Oper) : Bool := ops.all fun o => match o.op with | .defer _ => false | _ => true
theorem noDefer_spec {ops : Array Oper} (h : noDefer ops = true) (i : Nat) (o : Oper) (hi : ops[i]? = some o) (c : Call) : o.op ≠ Op.defer c := by
  intro e
  have := Array.all_eq_true'.1 h o (Array.mem_of_getElem? hi)
  rw [e] at this
  cases this
section
variable {P : Program} {ops : Array Oper} {Q : Exit → Act → World → Prop} {l n : Nat} {md : Region.Mode}
theorem op_round {o : Oper} {a : Act} {w : World} {K : Act → World → Prop} (hnd : ∀ c, o.op ≠ Op.defer c) (h : o.wp P a w K (roundQ Q)) : o.wpIn (Fence.wide.inRound l) n P a w K Q := by
  refine ⟨fun _ _ => trivial, ?_⟩
  rw [Oper.semAt_eq _ _ _ hnd]
  unfold Oper.wp at h
  generalize (execOp a.eval o).run P w = r at h ⊢
  cases r with
  | ok x w' =>
    cases x with
    | value v => exact h
    | skip => exact h
    | defer d => exact h
    | enter f args =>
      refine ⟨(fun hd => by cases hd), CallsIn.inRound l (callsIn_wide.2 (Calls.mono h fun e w'' he => ?_))⟩
      cases e with
      | returned v => exact he
      | panicked c => exact he.elim
      | outgrown => obtain ⟨_, _, he⟩ := he; exact he.elim
    | row r args => exact ⟨(fun hd => by cases hd), fun c cs _ => Exists.elim (h c cs) fun v hv => Exists.elim hv fun w' hw => ⟨v, w', hw.1, stepsIn_wide.2 hw.2⟩⟩
    | _ => exact h.elim
  | halt x w' =>
    cases x with
    | panic v => exact h.elim
    | _ => exact h.elim
theorem wpOp_round (hnd : ∀ (i : Nat) (o : Oper), ops[i]? = some o → ∀ c, o.op ≠ Op.defer c) {i : Nat} {a : Act} {w : World} {K : Act → World → Prop} (h : wpOp P ops (roundQ Q) i K a w) : wpOpIn (Fence.wide.inRound l) n P ops Q i K a w := by
  unfold wpOp at h
  unfold wpOpIn
  cases ho : ops[i]? with
  | none => rw [ho] at h; exact h
  | some o =>
    rw [ho] at h
    simp only at h ⊢
    split
    · rename_i hw
      rw [if_pos hw] at h
      rcases h with h | ⟨_, _, _, h⟩
      · exact op_round (hnd i o ho) h
      · exact h.elim
    · rename_i hw
      rw [if_neg hw] at h
      exact ⟨fun _ _ => trivial, h⟩
theorem wpAny_round (hnd : ∀ (i : Nat) (o : Oper), ops[i]? = some o → ∀ c, o.op ≠ Op.defer c) : ∀ (fuel : Nat) (listed : Array Bool) (a : Act) (w : World), wpAny P md ops (roundQ Q) fuel listed a w → wpAnyIn (Fence.wide.inRound l) n P md ops Q fuel listed a w := by
  intro fuel
  induction fuel with
  | zero => intro listed a w h; exact ⟨h.1, h.2⟩
  | succ fuel ih =>
    intro listed a w h
    exact ⟨fun h0 => h.1 h0, fun i hi => wpOpIn_mono (fun a w => ih _ a w) (wpOp_round hnd (h.2 i hi))⟩
/-- **A DRAWN REGION IN A ROUND, BY THE PLAIN WALK OF IT.** -/
theorem region_round {id : Nat} {a : Act} {w : World} (hm : P.follows .mixedOrders = true) (hnd : ∀ (i : Nat) (o : Oper), ops[i]? = some o → ∀ c, o.op ≠ Op.defer c)
    (h : wpAny P .any ops (roundQ Q) ops.size (Array.replicate ops.size false) a { w with drawn := w.drawn + 1 }) : (Code.region id ops true).wpIn (Fence.wide.inRound l) n P Q a w :=
  wpIn_region_any hm (wpAny_round hnd _ _ _ _ h)
theorem region_last_round {S : World → Prop} {id : Nat} {a : Act} {w : World} (hm : P.follows .mixedOrders = true) (hnd : noDefer ops = true) (hS : S w.drew)
    (h : S w.drew → wpAnyL P .any ops (roundQ Q) S ops.size (Array.replicate ops.size false) a w.drew) : (Code.region id ops true).wpIn (Fence.wide.inRound l) n P Q a w :=
  region_round hm (noDefer_spec hnd) (wpAny_of_L _ _ _ _ (h hS))
end
end Go.Proofs.Ytddopbbmgpnjjaa
