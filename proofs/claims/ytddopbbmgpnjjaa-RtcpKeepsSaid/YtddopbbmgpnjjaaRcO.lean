/- lengths of what is written of a packet. -/
import Derived.Test.YtddopbbmgpnjjaaRcN
namespace Go.Proofs.Ytddopbbmgpnjjaa
open Go.RowKit
set_option linter.unusedSimpArgs false

theorem fm_len {α : Type} {f : α → List UInt8} {s : Nat} (hs : ∀ x, (f x).length = s) (l : List α) : (l.flatMap f).length = s * l.length := by
  induction l with
  | nil => simp
  | cons x r ih => rw [List.flatMap_cons, List.length_append, ih, hs, List.length_cons, Nat.mul_add, Nat.mul_one, Nat.add_comm]
theorem fm_snoc {α : Type} (f : α → List UInt8) (l : List α) (k : Nat) (h : k < l.length) : (l.take (k + 1)).flatMap f = (l.take k).flatMap f ++ f l[k] := by
  rw [List.take_succ_eq_append_getElem h, List.flatMap_append, List.flatMap_cons, List.flatMap_nil, List.append_nil]
theorem fm_le {α : Type} {f : α → List UInt8} {s n : Nat} (hs : ∀ x, (f x).length = s) (l : List α) (k : Nat) (hn : l.length ≤ n) : ((l.take k).flatMap f).length ≤ s * n := by
  rw [fm_len hs, List.length_take]
  exact Nat.mul_le_mul_left s (Nat.le_trans (Nat.min_le_right _ _) hn)
theorem repL_len (x : Rp) : (repL x).length = 24 := by unfold repL; rw [u32Bs_len]; rfl
theorem wnL_len (x : Wn) : (wnL x).length = 8 := rfl
theorem u32B_len (x : Int) : (u32B x).length = 4 := rfl
theorem u16B_len (x : Int) : (u16B x).length = 2 := rfl
/-- what a good packet's slices are at most -/
theorem good_lens {p : Pk} (h : Good p) : p.reps.length ≤ 31 ∧ p.srcs.length ≤ 31 ∧ p.seqs.length ≤ 32 ∧ p.arrs.length ≤ 255 ∧ p.wants.length ≤ 8 ∧ p.name.size ≤ 64 := by
  obtain ⟨hk, he⟩ := h
  have h1 : p.reps = (onlyP p).reps := congrArg Pk.reps he
  have h2 : p.srcs = (onlyP p).srcs := congrArg Pk.srcs he
  have h3 : p.seqs = (onlyP p).seqs := congrArg Pk.seqs he
  have h4 : p.arrs = (onlyP p).arrs := congrArg Pk.arrs he
  have h5 : p.wants = (onlyP p).wants := congrArg Pk.wants he
  have h6 : p.name = (onlyP p).name := congrArg Pk.name he
  have l1 := congrArg List.length h1
  have l2 := congrArg List.length h2
  have l3 := congrArg List.length h3
  have l4 := congrArg List.length h4
  have l5 := congrArg List.length h5
  have l6 := congrArg ByteArray.size h6
  clear h1 h2 h3 h4 h5 h6 he
  have z : (⟨#[]⟩ : ByteArray).size = 0 := rfl
  unfold onlyP at l1 l2 l3 l4 l5 l6
  unfold KindOk at hk
  rcases hk with ⟨h | h, _, h7⟩ | ⟨h, _, h7⟩ | ⟨h, _, h7⟩ | ⟨h, _, _, h7⟩ | ⟨h, _, _, h7, _⟩ | h | ⟨h, _, h7⟩ <;> simp [h] at l1 l2 l3 l4 l5 l6 <;> simp [z, l1, l2, l3, l4, l5, l6] <;> omega
theorem whereP_low (k : Int) : (whereP k).2 ≤ 15 := by
  unfold whereP
  repeat' split
  all_goals decide
theorem lowP_ok {p : Pk} (h : Good p) : 0 ≤ lowP p ∧ lowP p ≤ 31 := by
  have hl := good_lens h
  obtain ⟨hk, he⟩ := h
  have h1 : p.reps = (onlyP p).reps := congrArg Pk.reps he
  have h2 : p.srcs = (onlyP p).srcs := congrArg Pk.srcs he
  have l1 := congrArg List.length h1
  have l2 := congrArg List.length h2
  clear h1 h2 he
  unfold onlyP at l1 l2
  unfold lowP
  unfold KindOk at hk
  rcases hk with ⟨h | h, _, h7⟩ | ⟨h, _, h7⟩ | ⟨h, _, h7⟩ | ⟨h, _, _, h7⟩ | ⟨h, _, _, h7, _⟩ | h | ⟨h, _, h7⟩ <;> simp [h] at l1 l2 <;> simp [h, whereP, l1, l2] <;> omega
theorem bits_or64 {n : Int} (h0 : 0 ≤ n) (h1 : n ≤ 31) : bits BinOp.or IntKind.i64 128 n = 128 + n := by
  have : ∀ k : Fin 32, bits BinOp.or IntKind.i64 128 (k.1 : Int) = 128 + (k.1 : Int) := by decide
  have := this ⟨n.toNat, by omega⟩
  simp only [] at this
  rw [show ((n.toNat : Nat) : Int) = n from by omega] at this
  exact this
theorem idx5 (a b c d e : Int) (k : Nat) (hk : k < [a, b, c, d, e].length) (w : World) : (Instr.index 95 (.agg #[.int .u32 a, .int .u32 b, .int .u32 c, .int .u32 d, .int .u32 e]) (.int .i64 k)).run Try.prog w = .ok (.int .u32 ([a, b, c, d, e][k])) w := by
  have h : k = 0 ∨ k = 1 ∨ k = 2 ∨ k = 3 ∨ k = 4 := by simp only [List.length_cons, List.length_nil] at hk; omega
  rcases h with rfl | rfl | rfl | rfl | rfl
  · have h := (by kernel_rfl : (Instr.index 95 (.agg #[.int .u32 a, .int .u32 b, .int .u32 c, .int .u32 d, .int .u32 e]) (.int .i64 0)).run Try.prog w = .ok (.int .u32 a) w)
    simpa using h
  · have h := (by kernel_rfl : (Instr.index 95 (.agg #[.int .u32 a, .int .u32 b, .int .u32 c, .int .u32 d, .int .u32 e]) (.int .i64 1)).run Try.prog w = .ok (.int .u32 b) w)
    simpa using h
  · have h := (by kernel_rfl : (Instr.index 95 (.agg #[.int .u32 a, .int .u32 b, .int .u32 c, .int .u32 d, .int .u32 e]) (.int .i64 2)).run Try.prog w = .ok (.int .u32 c) w)
    simpa using h
  · have h := (by kernel_rfl : (Instr.index 95 (.agg #[.int .u32 a, .int .u32 b, .int .u32 c, .int .u32 d, .int .u32 e]) (.int .i64 3)).run Try.prog w = .ok (.int .u32 d) w)
    simpa using h
  · have h := (by kernel_rfl : (Instr.index 95 (.agg #[.int .u32 a, .int .u32 b, .int .u32 c, .int .u32 d, .int .u32 e]) (.int .i64 4)).run Try.prog w = .ok (.int .u32 e) w)
    simpa using h
/-- two first ones stay, two behind them go -/
theorem St.drop23 {I : Img} {M : List Res} {w : World} {a b c d : Res} (h : St I (a :: b :: c :: d :: M) w) : St I (a :: b :: M) w :=
  (h.perm (List.Perm.append_right M (List.perm_append_comm (l₁ := [a, b]) (l₂ := [c, d])))).drop.drop
theorem St.rot22 {I : Img} {M : List Res} {w : World} {a b c d : Res} (h : St I (a :: b :: c :: d :: M) w) : St I (c :: d :: a :: b :: M) w :=
  h.perm (List.Perm.append_right M (List.perm_append_comm (l₁ := [a, b]) (l₂ := [c, d])))
end Go.Proofs.Ytddopbbmgpnjjaa
