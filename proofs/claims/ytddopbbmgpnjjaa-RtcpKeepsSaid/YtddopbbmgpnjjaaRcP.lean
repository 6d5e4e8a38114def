/- rtcp.pieces, rtcp.marks. -/
import Derived.Test.YtddopbbmgpnjjaaRcO
import Derived.Test.YtddopbbmgpnjjaaBy
import Derived.Deep.CutBlock
import Derived.OwnWalkIn
import Derived.TacticsInMore
import Derived.LoopNIn
import Derived.LoopIn
import Derived.Shelf.RegionOpen
namespace Go.Proofs.Ytddopbbmgpnjjaa
open Go.RowKit
set_option linter.unusedSimpArgs false

theorem pieces51 (w : World) (A : Option Addr) (n c : Nat) : Calls Try.prog 51 #[.slice A n c] w fun e w' => e = .returned (.func (.func 70) #[] #[.pointer (some ⟨w.heap.size, 0, none⟩)]) ∧ w' = w.alloc (.cells #[.slice A n c] 44) := by
  go_enter Try.func51, Try.ntmps51
  go_wp2
  go_returns
  exact ⟨rfl, rfl⟩
theorem marks53 (w : World) (A : Option Addr) (n c : Nat) : Calls Try.prog 53 #[.slice A n c] w fun e w' => e = .returned (.func (.func 71) #[] #[.pointer (some ⟨w.heap.size, 0, none⟩)]) ∧ w' = w.alloc (.cells #[.slice A n c] 48) := by
  go_enter Try.func53, Try.ntmps53
  go_wp2
  go_returns
  exact ⟨rfl, rfl⟩
theorem St.rot21 {I : Img} {M : List Res} {w : World} {a b c : Res} (h : St I (a :: b :: c :: M) w) : St I (c :: a :: b :: M) w :=
  h.perm (List.Perm.append_right M (List.perm_append_comm (l₁ := [a, b]) (l₂ := [c])))
theorem St.rot12 {I : Img} {M : List Res} {w : World} {a b c : Res} (h : St I (a :: b :: c :: M) w) : St I (b :: c :: a :: M) w :=
  h.perm (List.Perm.append_right M (List.perm_append_comm (l₁ := [a]) (l₂ := [b, c])))
theorem St.rot15 {I : Img} {M : List Res} {w : World} {a b c d e f : Res} (h : St I (a :: b :: c :: d :: e :: f :: M) w) : St I (b :: c :: d :: e :: f :: a :: M) w :=
  h.perm (List.Perm.append_right M (List.perm_append_comm (l₁ := [a]) (l₂ := [b, c, d, e, f])))
theorem zip2 {t : Array Value} {a b : Value} {i j : Tmp} : (#[i, j].zip #[a, b]).foldl (fun t (p, v) => t.setIfInBounds p v) t = (t.setIfInBounds i a).setIfInBounds j b := by
  simp
theorem range_two {P : Program} {α σ : Type} (ok : σ → α → Prop) (step : σ → α → σ) (s0 : σ) {g : Operand} (i j i2 j2 : Tmp) {assign body : Code} {Q : Exit → Act → World → Prop} {a : Act} {w : World} {gf : Nat} {lb : Array Value}
    (hg : a.eval g = .func (.func gf) #[] lb) (eg : ∀ args w, (callFunc gf args).run P w = .ok (.enter gf args) w) (e1 e2 : α → Value)
    (X : Obj → σ → World → Prop) (hX : ∀ o pre W, X o pre W → W.heap[w.heap.size + 1]? = some o) (hput : ∀ o o' pre W, X o pre W → X o' pre (W.putObj (w.heap.size + 1) o'))
    (h0 : ∀ o, X o s0 ((w.alloc (.deferred (some []))).alloc o))
    (hassign : ∀ (l : Nat) (x : α) (W : World) (K : Act → World → Prop), K { tmps := (((a.tmps.setIfInBounds i (e1 x)).setIfInBounds j (e2 x)).setIfInBounds i2 (e1 x)).setIfInBounds j2 (e2 x), defers := [] } W → assign.wpIn (Fence.wide.inRound l) 0 P (Exit.then K (fun _ _ _ => False)) { tmps := (a.tmps.setIfInBounds i (e1 x)).setIfInBounds j (e2 x), defers := [] } W)
    (hbody : ∀ (o : Obj) (pre : σ) (x : α) (W : World), X o pre W → ok pre x → body.wpIn (Fence.wide.inRound (w.heap.size + 1)) 0 P (fun e _ W' => e = .normal ∧ X o (step pre x) W') { tmps := (((a.tmps.setIfInBounds i (e1 x)).setIfInBounds j (e2 x)).setIfInBounds i2 (e1 x)).setIfInBounds j2 (e2 x), defers := [] } W)
    (S : σ → Prop)
    (hiter : ∀ (o : Obj), (∀ (pre : σ) (x : α) (W : World), X o pre W → ok pre x → YieldAt Fence.wide 0 P (w.heap.size + 1) #[e1 x, e2 x] W fun e W' => e = .returned (.bool true) ∧ X o (step pre x) W') →
      ∀ W, X o s0 W → CallsIn Fence.wide 0 P gf (#[.func (.yield (w.heap.size + 1)) #[] #[]] ++ lb) W fun e W' => (∃ v, e = .returned v) ∧ ∃ xs, S xs ∧ X o xs W')
    (hdone : ∀ (o : Obj) (xs : σ) (W : World), S xs → X o xs W → Q .normal { a with defers := { target := .collected w.heap.size, args := #[] } :: a.defers } W) :
    (Code.rangeFunc g #[i, j] assign body).wp P Q a w :=
  range_wp ok step s0 hg eg (encs := fun x => #[e1 x, e2 x]) (fun _ => rfl) X hX hput h0 (fun x => { tmps := (((a.tmps.setIfInBounds i (e1 x)).setIfInBounds j (e2 x)).setIfInBounds i2 (e1 x)).setIfInBounds j2 (e2 x), defers := [] }) (fun l x W K hK => by rw [zip2]; exact hassign l x W K hK) hbody S hiter hdone
theorem wrap_i64 {x : Int} (h0 : -9223372036854775808 ≤ x) (h1 : x ≤ 9223372036854775807) : IntKind.i64.wrap x = x := by
  simp only [IntKind.wrap, IntKind.signed, IntKind.bits]
  simp
  omega
theorem or_ref {a b : Int} (ha : 0 ≤ a ∧ a ≤ 16777215) (hb : 0 ≤ b ∧ b ≤ 255) : bits BinOp.or IntKind.u32 (a * 256) b = a * 256 + b := by
  obtain ⟨m, rfl⟩ := Int.eq_ofNat_of_zero_le ha.1
  obtain ⟨n, rfl⟩ := Int.eq_ofNat_of_zero_le hb.1
  have h := or_low m n 8 (by simp; omega) (by simp) (by simp; omega)
  have e : (m : Int) * 256 = ((m * 2 ^ 8 : Nat) : Int) := by simp
  rw [e, h]
  omega
/-- what holds between two marks -/
def XM (J : Img) (A : Option Addr) (n c : Nat) (l0 : List UInt8) (l D PB B F NB CB : Nat) (M : List Res) (o : Obj) (s : Ms) (W : World) : Prop :=
  ∃ u uf, St J (row 5 1 u (l0 ++ s.mks).length (bvs (l0 ++ s.mks)) :: bk B 60 #[u] :: row 5 1 uf s.far.length (bvs s.far) :: bk F 60 #[uf] :: bk NB 3 #[.int .i64 s.n] :: bk CB 42 #[.int .u16 s.ch] :: bk PB 48 #[.slice A n c] :: obk l o :: obk D (.deferred (some [])) :: M) W
end Go.Proofs.Ytddopbbmgpnjjaa
