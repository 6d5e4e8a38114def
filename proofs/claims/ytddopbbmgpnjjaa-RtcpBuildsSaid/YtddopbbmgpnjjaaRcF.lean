/- equality of the references' structs. -/
import Derived.Test.YtddopbbmgpnjjaaRcE
namespace Go.Proofs.Ytddopbbmgpnjjaa
open Go.RowKit
set_option linter.unusedSimpArgs false

def eqRp (x y : Rp) : Bool := (x.src == y.src) && ((x.lost == y.lost) && ((x.total == y.total) && ((x.high == y.high) && ((x.jit == y.jit) && ((x.last == y.last) && (x.delay == y.delay))))))
theorem eqRp_iff (x y : Rp) : eqRp x y = true ↔ x = y := by
  obtain ⟨a1, a2, a3, a4, a5, a6, a7⟩ := x
  obtain ⟨b1, b2, b3, b4, b5, b6, b7⟩ := y
  simp [eqRp]
def eqWn (x y : Wn) : Bool := (x.src == y.src) && (x.seq == y.seq)
theorem eqWn_iff (x y : Wn) : eqWn x y = true ↔ x = y := by
  obtain ⟨a1, a2⟩ := x
  obtain ⟨b1, b2⟩ := y
  simp [eqWn]
theorem q43 (d : Nat) (a b : Int) (w : World) : (Op.equalIn (d + 1) 43 (.int .u32 a) (.int .u32 b)).run Try.prog w = .ok (a == b) w := run_equalIn_int w d 43 .u32 .u32 a b Try.underlying43
theorem q5 (d : Nat) (a b : Int) (w : World) : (Op.equalIn (d + 1) 5 (.int .u8 a) (.int .u8 b)).run Try.prog w = .ok (a == b) w := run_equalIn_int w d 5 .u8 .u8 a b Try.underlying5
theorem neq67 (x y : Wn) (w : World) : (binOp .neq 67 (.agg #[.int .u32 x.src, .int .u8 x.seq]) (.agg #[.int .u32 y.src, .int .u8 y.seq])).run Try.prog w = .ok (.bool (!eqWn x y)) w := by
  have h1 := run_equalIn_agg (P := Try.prog) w 9999 67 #[.int .u32 x.src, .int .u8 x.seq] #[.int .u32 y.src, .int .u8 y.seq] (by kernel_rfl) (by kernel_rfl)
  have hf : (Try.prog.fieldsOf 67).toList = [⟨"Source", 43, 0, false, "", "", 0⟩, ⟨"Seq", 5, 1, false, "", "", 4⟩] := by kernel_rfl
  rw [hf] at h1
  rw [run_neq_struct, h1]
  have u1 := fun a b w => q43 9998 a b w
  have u2 := fun a b w => q5 9998 a b w
  simp only [Op.eqFields, part, isAgg, Sem.run_bind, Sem.run_ite, run_underlying Try.underlying43, run_underlying Try.underlying5, Result.andThen_ok, Sem.run_pure]
  unfold eqWn
  cases e1 : (x.src == y.src) <;> cases e2 : (x.seq == y.seq) <;> simp [u1, u2, e1, e2, go_sem]
theorem neq64 (x y : Rp) (w : World) : (binOp .neq 64 (.agg #[.int .u32 x.src, .int .u8 x.lost, .int .u32 x.total, .int .u32 x.high, .int .u32 x.jit, .int .u32 x.last, .int .u32 x.delay]) (.agg #[.int .u32 y.src, .int .u8 y.lost, .int .u32 y.total, .int .u32 y.high, .int .u32 y.jit, .int .u32 y.last, .int .u32 y.delay])).run Try.prog w = .ok (.bool (!eqRp x y)) w := by
  have h1 := run_equalIn_agg (P := Try.prog) w 9999 64 #[.int .u32 x.src, .int .u8 x.lost, .int .u32 x.total, .int .u32 x.high, .int .u32 x.jit, .int .u32 x.last, .int .u32 x.delay] #[.int .u32 y.src, .int .u8 y.lost, .int .u32 y.total, .int .u32 y.high, .int .u32 y.jit, .int .u32 y.last, .int .u32 y.delay] (by kernel_rfl) (by kernel_rfl)
  have hf : (Try.prog.fieldsOf 64).toList = [⟨"Source", 43, 0, false, "", "", 0⟩, ⟨"Lost", 5, 1, false, "", "", 4⟩, ⟨"Total", 43, 2, false, "", "", 8⟩, ⟨"High", 43, 3, false, "", "", 12⟩, ⟨"Jitter", 43, 4, false, "", "", 16⟩, ⟨"Last", 43, 5, false, "", "", 20⟩, ⟨"Delay", 43, 6, false, "", "", 24⟩] := by kernel_rfl
  rw [hf] at h1
  rw [run_neq_struct, h1]
  have u1 := fun a b w => q43 9998 a b w
  have u2 := fun a b w => q5 9998 a b w
  simp only [Op.eqFields, part, isAgg, Sem.run_bind, Sem.run_ite, run_underlying Try.underlying43, run_underlying Try.underlying5, Result.andThen_ok, Sem.run_pure]
  unfold eqRp
  cases e1 : (x.src == y.src)
  · simp [u1, u2, e1, go_sem]
  cases e2 : (x.lost == y.lost)
  · simp [u1, u2, e1, e2, go_sem]
  cases e3 : (x.total == y.total)
  · simp [u1, u2, e1, e2, e3, go_sem]
  cases e4 : (x.high == y.high)
  · simp [u1, u2, e1, e2, e3, e4, go_sem]
  cases e5 : (x.jit == y.jit)
  · simp [u1, u2, e1, e2, e3, e4, e5, go_sem]
  cases e6 : (x.last == y.last)
  · simp [u1, u2, e1, e2, e3, e4, e5, e6, go_sem]
  cases e7 : (x.delay == y.delay) <;> simp [u1, u2, e1, e2, e3, e4, e5, e6, e7, go_sem]
end Go.Proofs.Ytddopbbmgpnjjaa
