/- arrivals' marks: what holds between two of them. -/
import Derived.Test.YtddopbbmgpnjjaaRcP
namespace Go.Proofs.Ytddopbbmgpnjjaa
open Go.RowKit
set_option linter.unusedSimpArgs false

/-- a mark may be taken -/
def okM (N : Nat) (s : Ms) (x : Int × Int) : Prop := s.n < N ∧ s.mks.length ≤ 2 * s.n ∧ s.far.length ≤ 2 * s.n ∧ (0 ≤ s.ch ∧ s.ch ≤ 65535) ∧ (0 ≤ x.1 ∧ x.1 ≤ 2)
theorem markOf_ok (a : Int) : 0 ≤ markOf a ∧ markOf a ≤ 2 := by
  unfold markOf
  repeat' split
  all_goals decide
theorem stepM_ok {N : Nat} {s : Ms} {x : Int × Int} (h : okM N s x) : (stepM N s x).n = s.n + 1 ∧ (stepM N s x).mks.length ≤ 2 * (s.n + 1) ∧ (stepM N s x).far.length ≤ 2 * (s.n + 1) ∧ (0 ≤ (stepM N s x).ch ∧ (stepM N s x).ch ≤ 65535) := by
  obtain ⟨_, h1, h2, h3, _⟩ := h
  refine ⟨rfl, ?_, ?_, ?_⟩
  · show (if fullM N s then s.mks ++ u16B _ else s.mks).length ≤ _
    split
    · rw [List.length_append, u16B_len]; omega
    · omega
  · show (if x.1 = 1 then s.far ++ [byteOf (x.2 % 256)] else if x.1 = 2 then s.far ++ u16B (x.2 % 65536) else s.far).length ≤ _
    repeat' split
    · rw [List.length_append]; show _ + 1 ≤ _; omega
    · rw [List.length_append, u16B_len]; omega
    · omega
  · show 0 ≤ (if fullM N s then 0 else chM s x.1) ∧ (if fullM N s then 0 else chM s x.1) ≤ 65535
    split
    · decide
    · exact bits_u16 _ _ _ rfl
theorem foldM_ok (N : Nat) : ∀ (l : List Int), l.length ≤ N → ((l.map markP).foldl (stepM N) ms0).n = l.length ∧ ((l.map markP).foldl (stepM N) ms0).mks.length ≤ 2 * l.length ∧ ((l.map markP).foldl (stepM N) ms0).far.length ≤ 2 * l.length ∧ (0 ≤ ((l.map markP).foldl (stepM N) ms0).ch ∧ ((l.map markP).foldl (stepM N) ms0).ch ≤ 65535) := by
  intro l
  induction hk : l.length generalizing l with
  | zero =>
    intro _
    have : l = [] := List.length_eq_zero_iff.1 hk
    subst this
    exact ⟨rfl, Nat.le_refl _, Nat.le_refl _, (by decide : (0 : Int) ≤ 0), (by decide : (0 : Int) ≤ 65535)⟩
  | succ k ih =>
    intro hN
    have hne : l ≠ [] := by intro e; rw [e] at hk; cases hk
    obtain ⟨r, x, rfl⟩ : ∃ r x, l = r ++ [x] := ⟨l.dropLast, l.getLast hne, (List.dropLast_concat_getLast hne).symm⟩
    have hr : r.length = k := by rw [List.length_append] at hk; simpa using hk
    obtain ⟨h1, h2, h3, h4⟩ := ih r hr (by omega)
    rw [List.map_append, List.foldl_append]
    have := stepM_ok (N := N) (s := (r.map markP).foldl (stepM N) ms0) (x := markP x) ⟨by omega, by omega, by omega, h4, markOf_ok x⟩
    rw [h1] at this
    exact this
theorem okM_all (l : List Int) (k : Nat) (h : k < l.length) : okM l.length (((l.take k).map markP).foldl (stepM l.length) ms0) (markP l[k]) := by
  have hk : (l.take k).length = k := by rw [List.length_take]; omega
  obtain ⟨h1, h2, h3, h4⟩ := foldM_ok l.length (l.take k) (by omega)
  rw [hk] at h1 h2 h3
  exact ⟨by omega, by omega, by omega, h4, markOf_ok _⟩
theorem St.ord7 {I : Img} {M : List Res} {w : World} {u P C N F r b : Res} (h : St I (u :: P :: C :: N :: F :: r :: b :: M) w) : St I (r :: b :: u :: F :: N :: C :: P :: M) w :=
  h.perm (List.Perm.append_right M ((List.perm_append_comm (l₁ := [u, P, C, N, F]) (l₂ := [r, b])).trans ((List.reverse_perm [P, C, N, F]).symm.append_left [r, b, u])))
theorem St.rot27 {I : Img} {M : List Res} {w : World} {a b c d e f g i j : Res} (h : St I (a :: b :: c :: d :: e :: f :: g :: i :: j :: M) w) : St I (c :: d :: e :: f :: g :: i :: j :: a :: b :: M) w :=
  h.perm (List.Perm.append_right M (List.perm_append_comm (l₁ := [a, b]) (l₂ := [c, d, e, f, g, i, j])))
theorem St.up6 {I : Img} {M : List Res} {w : World} {a b c d e f x : Res} (h : St I (a :: b :: c :: d :: e :: f :: x :: M) w) : St I (x :: a :: b :: c :: d :: e :: f :: M) w :=
  h.perm (List.Perm.append_right M (List.perm_append_comm (l₁ := [a, b, c, d, e, f]) (l₂ := [x])))
theorem St.up7 {I : Img} {M : List Res} {w : World} {a b c d e f g x : Res} (h : St I (a :: b :: c :: d :: e :: f :: g :: x :: M) w) : St I (x :: a :: b :: c :: d :: e :: f :: g :: M) w :=
  h.perm (List.Perm.append_right M (List.perm_append_comm (l₁ := [a, b, c, d, e, f, g]) (l₂ := [x])))
theorem St.dn7 {I : Img} {M : List Res} {w : World} {a b c d e f g x : Res} (h : St I (x :: a :: b :: c :: d :: e :: f :: g :: M) w) : St I (a :: b :: c :: d :: e :: f :: g :: x :: M) w :=
  h.perm (List.Perm.append_right M (List.perm_append_comm (l₁ := [x]) (l₂ := [a, b, c, d, e, f, g])))
/-- behind the marks: counts, chunk, list and record go -/
theorem St.out9 {I : Img} {M : List Res} {w : World} {a b c d n k q l D x y z : Res} (h : St I (a :: b :: c :: d :: n :: k :: q :: l :: D :: x :: y :: z :: M) w) : St I (a :: b :: c :: d :: x :: y :: z :: D :: M) w :=
  ((h.perm (List.Perm.append_right M (List.perm_append_comm (l₁ := [a, b, c, d]) (l₂ := [n, k, q, l, D, x, y, z])))).drop.drop.drop.drop).perm (List.Perm.append_right M ((List.perm_append_comm (l₁ := [D, x, y, z]) (l₂ := [a, b, c, d])).trans ((List.perm_append_comm (l₁ := [D]) (l₂ := [x, y, z])).append_left [a, b, c, d])))
theorem St.dn6 {I : Img} {M : List Res} {w : World} {f a b x y z D : Res} (h : St I (f :: a :: b :: x :: y :: z :: D :: M) w) : St I (a :: b :: x :: y :: z :: D :: M) w := h.drop
theorem St.set5 {I : Img} {M : List Res} {w : World} {a b c d e : Res} {g t : Nat} {cs : Array Value} (h : St I (a :: b :: c :: d :: e :: bk g t cs :: M) w) (i : Nat) (u : Value) : St I (a :: b :: c :: d :: e :: bk g t (cs.setIfInBounds i u) :: M) (w.setCell ⟨g, i, none⟩ u) :=
  (St.set (h.perm (List.Perm.append_right M (List.perm_append_comm (l₁ := [a, b, c, d, e]) (l₂ := [bk g t cs])))) i u).perm (List.Perm.append_right M (List.perm_append_comm (l₁ := [bk g t (cs.setIfInBounds i u)]) (l₂ := [a, b, c, d, e])))
end Go.Proofs.Ytddopbbmgpnjjaa
