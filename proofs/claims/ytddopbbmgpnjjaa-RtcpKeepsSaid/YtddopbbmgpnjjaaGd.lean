/- chains of guarded reads ('a && b && ..'), told by Bools: no way is parted. -/
import Derived.Test.YtddopbbmgpnjjaaMo
import Derived.Laws.Rows
namespace Go.Proofs.Ytddopbbmgpnjjaa
open Go.RowKit
set_option linter.unusedSimpArgs false

section
variable {P : Program} {ops : Array Oper} {rest : List Oper} {o : Oper} {a : Act} {w : World} {Q : Exit → Act → World → Prop}
/-- what a guarded operation leaves -/
def gv (b : Bool) (v : Value) : Value := if b then v else undef
/-- the walk stands here -/
def Stopped (p : Prop) : Prop := p
theorem wpList_stop (s : Tmp) (_hs : o.dst = some s) (h : Stopped (wpList P ops Q (o :: rest) a w)) : wpList P ops Q (o :: rest) a w := h
theorem gd_sym (b : Bool) (v : Value) (hw : Region.wanted o (yielded ops a.tmps) = b) (hv : b = true → (execOp a.eval o).run P w = .ok (.value v) w) (h : wpList P ops Q rest (a.put o.dst (gv b v)) w) : wpList P ops Q (o :: rest) a w := by
  unfold wpList
  cases b with
  | false => rw [hw, if_neg (by decide)]; exact h
  | true =>
    rw [hw, if_pos rfl]
    refine .inl ?_
    unfold Oper.wp
    rw [hv rfl]
    exact h
theorem gd_plain (v : Value) (hg : o.guard = none) (hv : (execOp a.eval o).run P w = .ok (.value v) w) (h : wpList P ops Q rest (a.put o.dst v) w) : wpList P ops Q (o :: rest) a w :=
  gd_sym true v (by simp [Region.wanted, hg]) (fun _ => hv) h
theorem gd_move (x : Operand) (ho : o.op = .move x) (hg : o.guard = none) (v : Value) (hx : a.eval x = v) (h : wpList P ops Q rest (a.put o.dst v) w) : wpList P ops Q (o :: rest) a w :=
  gd_plain v hg (by unfold execOp; simp only [ho, hx, Sem.run_pure]) h
theorem gd_gmove (b : Bool) (x : Operand) (ho : o.op = .move x) (v : Value) (hw : Region.wanted o (yielded ops a.tmps) = b) (hx : b = true → a.eval x = v) (h : wpList P ops Q rest (a.put o.dst (gv b v)) w) : wpList P ops Q (o :: rest) a w :=
  gd_sym b v hw (fun hb => by unfold execOp; simp only [ho, hx hb, Sem.run_pure]) h
theorem gd_field (b : Bool) (T : TypeId) (x : Operand) (f : Nat) (ho : o.op = .fieldAddr T x f) (p p' : Addr) (hw : Region.wanted o (yielded ops a.tmps) = b) (hx : b = true → a.eval x = .pointer (some p)) (hr : (Instr.fieldAt T (.pointer (some p)) f).run P w = .ok (.pointer (some p')) w)
    (h : wpList P ops Q rest (a.put o.dst (gv b (.pointer (some p')))) w) : wpList P ops Q (o :: rest) a w :=
  gd_sym b _ hw (fun hb => by unfold execOp; simp only [ho, hx hb, Sem.run_bind, hr, Result.andThen_ok, Sem.run_pure]) h
theorem gd_load (b : Bool) (T : TypeId) (x : Operand) (ho : o.op = .load T x) (p : Addr) (u : Value) (hw : Region.wanted o (yielded ops a.tmps) = b) (hx : b = true → a.eval x = .pointer (some p)) (hr : (Instr.loadAt T (.pointer (some p))).run P w = .ok u w)
    (h : wpList P ops Q rest (a.put o.dst (gv b u)) w) : wpList P ops Q (o :: rest) a w :=
  gd_sym b _ hw (fun hb => by unfold execOp; simp only [ho, hx hb, Sem.run_bind, hr, Result.andThen_ok, Sem.run_pure]) h
theorem gd_bin (b : Bool) (op : BinOp) (T : TypeId) (x y : Operand) (ty : TypeId) (ho : o.op = .binOp op T x y ty) (u v r : Value) (hw : Region.wanted o (yielded ops a.tmps) = b) (hx : b = true → a.eval x = u) (hy : b = true → a.eval y = v)
    (hq : (eqGuard op T x y u v).run P w = .ok () w) (hr : (binOp op T u v).run P w = .ok r w) (h : wpList P ops Q rest (a.put o.dst (gv b r)) w) : wpList P ops Q (o :: rest) a w :=
  gd_sym b _ hw (fun hb => by unfold execOp; simp only [ho, hx hb, hy hb, Sem.run_bind, hq, hr, Result.andThen_ok, Sem.run_pure]) h
theorem gd_len (b : Bool) (x : Operand) (T e : TypeId) (ho : o.op = .call { callee := .builtin .len, args := #[x], argTypes := #[T] }) (hT : P.underlying T = some (.slice e)) (A : Option Addr) (n c : Nat) (hw : Region.wanted o (yielded ops a.tmps) = b) (hx : b = true → a.eval x = .slice A n c)
    (h : wpList P ops Q rest (a.put o.dst (gv b (.int .i64 n))) w) : wpList P ops Q (o :: rest) a w :=
  gd_sym b _ hw (fun hb => by
    have hl : (Builtin.len_ #[T] o.type #[.slice A n c]).run P w = .ok (.int .i64 n) w := run_len_slice w T o.type A n c (by unfold Program.elem; rw [hT])
    unfold execOp
    simp only [ho, resolve, invoke, builtin, Sem.run_bind, Sem.run_pure, Result.andThen_ok, List.map_toArray, List.map_cons, List.map_nil, hx hb, hl]) h
theorem gd_lenS (b : Bool) (x : Operand) (T : TypeId) (ho : o.op = .call { callee := .builtin .len, args := #[x], argTypes := #[T] }) (hT : P.underlying T = some .string) (s : ByteArray) (hw : Region.wanted o (yielded ops a.tmps) = b) (hx : b = true → a.eval x = .string s)
    (h : wpList P ops Q rest (a.put o.dst (gv b (.int .i64 s.size))) w) : wpList P ops Q (o :: rest) a w :=
  gd_sym b _ hw (fun hb => by
    have hl : (Builtin.len_ #[T] o.type #[.string s]).run P w = .ok (.int .i64 s.size) w := run_len_string w T o.type s hT
    unfold execOp
    simp only [ho, resolve, invoke, builtin, Sem.run_bind, Sem.run_pure, Result.andThen_ok, List.map_toArray, List.map_cons, List.map_nil, hx hb, hl]) h
/-- 'a && b' -/
theorem gd_and (c x : Operand) (ho : o.op = .pick c x (.const (.bool false))) (hg : o.guard = none) (b e : Bool) (hc : a.eval c = .bool b) (hx : b = true → a.eval x = .bool e) (h : wpList P ops Q rest (a.put o.dst (.bool (b && e))) w) : wpList P ops Q (o :: rest) a w := by
  refine gd_plain _ hg ?_ h
  unfold execOp
  cases b with
  | false => simp only [ho, hc, asBool, Sem.run_bind, Sem.run_pure, Result.andThen_ok, Bool.false_and]; rfl
  | true => simp only [ho, hc, hx rfl, asBool, Sem.run_bind, Sem.run_pure, Result.andThen_ok, if_true, Bool.true_and]
/-- 'a || b' -/
theorem gd_or (c x : Operand) (ho : o.op = .pick c (.const (.bool true)) x) (hg : o.guard = none) (b e : Bool) (hc : a.eval c = .bool b) (hx : b = false → a.eval x = .bool e) (h : wpList P ops Q rest (a.put o.dst (.bool (b || e))) w) : wpList P ops Q (o :: rest) a w := by
  refine gd_plain _ hg ?_ h
  unfold execOp
  cases b with
  | true => simp only [ho, hc, asBool, Sem.run_bind, Sem.run_pure, Result.andThen_ok, if_true, Bool.true_or]; rfl
  | false => simp only [ho, hc, hx rfl, asBool, Sem.run_bind, Sem.run_pure, Result.andThen_ok, Bool.false_or]; rfl
/-- a whole struct, read where a region draws -/
theorem row_take (ty : TypeId) (x : Operand) (ho : o.op = .load ty x) (g : Nat) (hx : a.eval x = .pointer (some ⟨g, 0, none⟩)) (t : TypeId) (cs : Array Value) (fr : Nat × Nat) (d : TypeDesc) (hg : w.heap[g]? = some (.cells cs t fr))
    (hu : P.underlying ty = some d) (hd : (match d with | .struct _ | .array _ _ => true | _ => false) = true) (hi : (P.info? ty).map (·.size) = some cs.size) : (execOp a.eval o).run P w = .ok (.value (.agg cs)) w := by
  unfold execOp
  simp only [ho, hx, Instr.loadAt, Instr.sureAddr, Sem.run_bind, Sem.run_pure, Result.andThen_ok, run_loadVar_row w g t ty cs fr d hg hu hd hi]
theorem eqg_int (op : BinOp) (T : TypeId) (x y : Operand) (k l : IntKind) (m n : Int) : (eqGuard op T x y (.int k m) (.int l n)).run P w = .ok () w := by
  cases op <;> rfl
theorem eqg_str (op : BinOp) (T : TypeId) (x y : Operand) (s t : ByteArray) : (eqGuard op T x y (.string s) (.string t)).run P w = .ok () w := by
  cases op <;> rfl
theorem eqg_bool (op : BinOp) (T : TypeId) (x y : Operand) (s t : Bool) : (eqGuard op T x y (.bool s) (.bool t)).run P w = .ok () w := by
  cases op <;> rfl
end
end Go.Proofs.Ytddopbbmgpnjjaa
