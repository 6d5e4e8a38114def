/- packets as they come, and what of them may be built. -/
import Derived.Test.YtddopbbmgpnjjaaRcX
namespace Go.Proofs.Ytddopbbmgpnjjaa
open Go.RowKit
set_option linter.unusedSimpArgs false

structure RpRaw (x : Rp) : Prop where
  src : 0 ≤ x.src ∧ x.src < 4294967296
  lost : 0 ≤ x.lost ∧ x.lost < 256
  total : 0 ≤ x.total ∧ x.total ≤ 4294967295
  high : 0 ≤ x.high ∧ x.high < 4294967296
  jit : 0 ≤ x.jit ∧ x.jit < 4294967296
  last : 0 ≤ x.last ∧ x.last < 4294967296
  delay : 0 ≤ x.delay ∧ x.delay < 4294967296
/-- a packet of any numbers -/
structure PkRaw (p : Pk) : Prop where
  sender : 0 ≤ p.sender ∧ p.sender ≤ 4294967295
  media : 0 ≤ p.media ∧ p.media ≤ 4294967295
  ntp : 0 ≤ p.ntp ∧ p.ntp ≤ 18446744073709551615
  rtp : 0 ≤ p.rtp ∧ p.rtp ≤ 4294967295
  pkts : 0 ≤ p.pkts ∧ p.pkts ≤ 4294967295
  octs : 0 ≤ p.octs ∧ p.octs ≤ 4294967295
  reps : ∀ x ∈ p.reps, RpRaw x
  srcs : ∀ x ∈ p.srcs, 0 ≤ x ∧ x ≤ 4294967295
  seqs : ∀ x ∈ p.seqs, 0 ≤ x ∧ x ≤ 65535
  base : 0 ≤ p.base ∧ p.base ≤ 65535
  ref : 0 ≤ p.ref ∧ p.ref ≤ 4294967295
  count : 0 ≤ p.count ∧ p.count ≤ 255
  wants : ∀ x ∈ p.wants, (0 ≤ x.src ∧ x.src ≤ 4294967295) ∧ (0 ≤ x.seq ∧ x.seq ≤ 255)
  lr : p.reps.length ≤ 140737488351232
  ls : p.srcs.length ≤ 140737488351232
  lq : p.seqs.length ≤ 140737488351232
  la : p.arrs.length ≤ 140737488351232
  lw : p.wants.length ≤ 140737488351232
  ln : p.name.size ≤ maxLen
  br : p.reps.length * 28 ≤ 140737488351232
  bs : p.srcs.length * 4 ≤ 140737488351232
  bq : p.seqs.length * 2 ≤ 140737488351232
  ba : p.arrs.length * 8 ≤ 140737488351232
  bw : p.wants.length * 8 ≤ 140737488351232
theorem PkRaw.ok {p : Pk} (h : PkRaw p) (g : Good p) : PkOk p where
  sender := h.sender
  media := h.media
  ntp := h.ntp
  rtp := h.rtp
  pkts := h.pkts
  octs := h.octs
  reps := fun x hx => by
    have h1 := h.reps x hx
    refine ⟨h1.src, h1.lost, ⟨h1.total.1, ?_⟩, h1.high, h1.jit, h1.last, h1.delay⟩
    rcases Int.lt_or_le x.total 16777216 with h2 | h2
    · exact h2
    · exact absurd g (bad_rep hx (decide_eq_true h2))
  srcs := h.srcs
  seqs := h.seqs
  base := h.base
  ref := by
    refine ⟨h.ref.1, ?_⟩
    obtain ⟨hk, he⟩ := g
    have h1 : p.ref = (onlyP p).ref := congrArg Pk.ref he
    unfold onlyP at h1
    unfold KindOk at hk
    by_cases h6 : p.kind = 6
    · rcases hk with hk | hk | hk | hk | hk | hk | hk <;> first | omega | (have := hk.2.2.2.2; omega)
    · simp only [if_neg h6] at h1
      omega
  count := h.count
  wants := h.wants
theorem body_len {p : Pk} (g : Good p) : (bodyL p).length ≤ 3000 := by
  obtain ⟨n1, n2, n3, n4, n5, n6⟩ := good_lens g
  unfold bodyL
  simp only [List.length_append]
  have h1 := fm_len (f := repL) (s := 24) repL_len p.reps
  have h2 := u32Bs_len p.srcs
  have h3 := fm_len (f := wnL) (s := 8) wnL_len p.wants
  have h4 : (if p.kind = 4 then ([] : List UInt8) else u32B p.sender).length ≤ 4 := by split <;> simp [u32B_len]
  have h5 : (if 5 ≤ p.kind then u32B p.media else ([] : List UInt8)).length ≤ 4 := by split <;> simp [u32B_len]
  have h6 : (kindL p).length ≤ 1100 := by
    have hp := piecesB_le _ p.seqs (Nat.le_refl _)
    have hm := foldM_ok p.arrs.length p.arrs (Nat.le_refl _)
    have hz : p.name.data.toList.length = p.name.size := rfl
    unfold kindL
    repeat' split
    · rw [u32Bs_len]; simp
    · simp only [List.length_append, hz, List.length_cons, List.length_nil]; omega
    · omega
    · simp only [List.length_append, u16B_len, u32B_len, arrsL]
      have e : arrsM p.arrs = (p.arrs.map markP).foldl (stepM p.arrs.length) ms0 := rfl
      rw [e]
      omega
    · simp
  omega
theorem pack_len {p : Pk} (g : Good p) : 4 ≤ (packB p).length ∧ (packB p).length ≤ 3010 := by
  have h1 := body_len g
  have h2 := evenL_le (bodyL p)
  unfold packB
  simp only [List.length_append, List.length_cons, List.length_nil, u16B_len]
  omega
theorem packs_len {l : List Pk} {n : Nat} (hn : l.length ≤ n) (g : ∀ p ∈ l, Good p) : (l.flatMap packB).length ≤ 3010 * n := by
  induction l generalizing n with
  | nil => simp
  | cons p r ih =>
    rw [List.flatMap_cons, List.length_append]
    have h1 := (pack_len (g p (List.mem_cons_self ..))).2
    rw [List.length_cons] at hn
    have h2 := ih (n := n - 1) (by omega) (fun q hq => g q (List.mem_cons_of_mem _ hq))
    omega
/-- packets that may be built -/
def Built (l : List Pk) : Prop := (1 ≤ l.length ∧ l.length ≤ 8) ∧ (∃ p r, l = p :: r ∧ (p.kind = 1 ∨ p.kind = 2)) ∧ (∀ p ∈ l, Good p) ∧ (l.flatMap packB).length ≤ 1500
abbrev pvC (x : Pk × Vs) : List Value := (pkC x.1 x.2).toList
abbrev pks (l : List (Pk × Vs)) : List Pk := l.map (·.1)
/-- a list of packets that is read only -/
structure Pks (I : Img) (A : Option Addr) (ps : List (Pk × Vs)) : Prop where
  cells : Cells I A (flat pvC ps)
  each : ∀ x ∈ ps, PkIn I x.1 x.2 ∧ PkRaw x.1
  most : ps.length ≤ 1099511627776
theorem Pks.mono {I J : Img} {A : Option Addr} {ps : List (Pk × Vs)} (h : Pks I A ps) (hl : I.le J) : Pks J A ps := ⟨h.cells.mono hl, fun x hx => ⟨(h.each x hx).1.mono hl, (h.each x hx).2⟩, h.most⟩
/-- what a Build of any list answers -/
def BuiltAs (M : List Res) (l : List Pk) (v : Value) (M' : List Res) : Prop :=
  (Built l ∧ ∃ u, v = .tuple #[u, .int .i64 0] ∧ M' = row 5 1 u (l.flatMap packB).length (bvs (l.flatMap packB)) :: M) ∨ (¬ Built l ∧ v = .tuple #[.slice none 0 0, .int .i64 1] ∧ M' = M)
theorem Built.no_len {l : List Pk} (h : ¬ (1 ≤ l.length ∧ l.length ≤ 8)) : ¬ Built l := fun g => h g.1
theorem Built.no_head {p : Pk} {r : List Pk} (h : ¬ (p.kind = 1 ∨ p.kind = 2)) : ¬ Built (p :: r) := by
  rintro ⟨_, ⟨q, s, e, hq⟩, _⟩
  obtain ⟨rfl, rfl⟩ := List.cons.inj e
  exact h hq
theorem Built.no_good {l : List Pk} {p : Pk} (hp : p ∈ l) (h : ¬ Good p) : ¬ Built l := fun g => h (g.2.2.1 p hp)
theorem Built.no_most {l : List Pk} (h : ¬ (l.flatMap packB).length ≤ 1500) : ¬ Built l := fun g => h g.2.2.2
end Go.Proofs.Ytddopbbmgpnjjaa
