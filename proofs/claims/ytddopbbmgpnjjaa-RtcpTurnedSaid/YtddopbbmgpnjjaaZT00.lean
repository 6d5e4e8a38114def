/- part. -/
import Derived.Test.YtddopbbmgpnjjaaRows
import Derived.WalkKit
import Derived.WalkSpells
import Derived.WalkLawsBesides
import Derived.Deep.QuietTactic
import Derived.BigQuiet
import Derived.Lib.Hide
import Derived.Maps.AppendAt
import Derived.Laws.OwnMore
import Derived.Deep.AppendSrc
import Derived.RegionTactic
import Derived.Deep.RegionHeld3
import Derived.Deep.DrawnRows
import Derived.Deep.DeepCutAuto
import Derived.Handy
import Derived.OrdersHeld
namespace Go.Proofs.Ytddopbbmgpnjjaa
set_option linter.unusedSimpArgs false
open Go.RowKit
theorem VL {p : Prop} (h : p) : Hid p := Lib.hid h
theorem wh {P : Program} {ops : Array Oper} {Q : Exit -> Act -> World -> Prop} {md : Region.Mode} {S : World -> Prop} (i : Nat) {oi : Oper} {v : Value} {fuel : Nat} {listed : Array Bool} {a : Act} {w : World} (hi : ops.toList[i]? = some oi)
  (hb : (Region.noSelect ops && (Region.free md ops listed i && (Region.ready md ops listed).contains i)) = true)
  (hQ : ∀ c a w, Q (.panic c) (a.put oi.dst v) w -> Q (.panic c) a w) (hw : Region.wanted oi (yielded ops a.tmps) = true) (hS : S w)
  (hy : ∀ w, S w -> (execOp a.eval oi).run P w = .ok (.value v) w)
  (h : wpAnyH P md ops Q S fuel (listed.setIfInBounds i true) (a.put oi.dst v) w) : wpAnyH P md ops Q S (fuel + 1) listed a w := by
 simp only [Bool.and_eq_true] at hb
 exact wpAnyH_take (i := i) (by simpa using hi) hb.1 hb.2.1 hb.2.2 hQ (.inl ⟨hw, hy⟩) hS h
structure Zh where
 os : Os
 tape : Nat -> Question -> Nat
 output : Array (Nat × ByteArray)
 obj : Nat -> Option Obj
structure Zh.le (I J : Zh) : Prop where
 os : J.os = I.os
 tape : J.tape = I.tape
 output : J.output = I.output
 obj : ∀ k o, I.obj k = some o -> J.obj k = some o
theorem Zh.le.refl (I : Zh) : I.le I := ⟨rfl, rfl, rfl, fun _ _ h => h⟩
theorem Zh.le.trans {I J K : Zh} (h : I.le J) (k : J.le K) : I.le K := ⟨k.os.trans h.os, k.tape.trans h.tape, k.output.trans h.output, fun i o hi => k.obj i o (h.obj i o hi)⟩
structure Zt where
 blk : Option Nat
 ok : World -> Prop
 loc : ∀ w w' : World, ok w -> (∀ b, blk = some b -> w'.heap[b]? = w.heap[b]?) -> ok w'
 lt : ∀ w, ok w -> ∀ b, blk = some b -> b < w.heap.size
def Apart (r s : Zt) : Prop := ∀ b, r.blk = some b -> s.blk ≠ some b
theorem Apart.symm {r s : Zt} (h : Apart r s) : Apart s r := fun b hs hr => h b hr hs
structure St (I : Zh) (M : List Zt) (w : World) : Prop where
 os : w.os = I.os
 tape : w.tape = I.tape
 output : w.output = I.output
 img : ∀ k o, I.obj k = some o -> w.heap[k]? = some o
 res : ∀ r ∈ M, r.ok w
 apart : M.Pairwise Apart
 away : ∀ r ∈ M, ∀ b, r.blk = some b -> I.obj b = none
def ZO (w : World) (g : Nat) (t : TypeId) (cs : Array Value) : Prop := w.heap[g]? = some (.cells cs t (0, 0))
section
variable {w w' : World} {g : Nat} {t : TypeId} {cs : Array Value}
theorem ZO.lt (h : ZO w g t cs) : g < w.heap.size := (Array.getElem?_eq_some_iff.1 h).1
theorem ZO.cell (h : ZO w g t cs) (i : Nat) : w.cell? ⟨g, i, none⟩ = cs[i]? := cell_of_row w g i cs t (0, 0) h
theorem ZO.frozen (h : ZO w g t cs) (i : Nat) : w.frozen? ⟨g, i, none⟩ = false := by
 unfold ZO at h
 simp [World.frozen?, h]
theorem ZO.one {a : Value} (h : ZO w g t #[a]) : w.cell? ⟨g, 0, none⟩ = some a /\ w.frozen? ⟨g, 0, none⟩ = false /\ g < w.heap.size := ⟨h.cell 0, h.frozen 0, h.lt⟩
theorem ZO.two {a b : Value} (h : ZO w g t #[a, b]) : w.cell? ⟨g, 0, none⟩ = some a /\ w.cell? ⟨g, 1, none⟩ = some b /\ w.frozen? ⟨g, 0, none⟩ = false /\ w.frozen? ⟨g, 1, none⟩ = false /\ g < w.heap.size :=
 ⟨h.cell 0, h.cell 1, h.frozen 0, h.frozen 1, h.lt⟩
end
def bk (g : Nat) (t : TypeId) (cs : Array Value) : Zt where
 blk := some g
 ok w := ZO w g t cs
 loc _ _ h hb := (hb g rfl).trans h
 lt _ h b hb := by injection hb with hb; subst hb; exact ZO.lt h
def row (e size : Nat) (v : Value) (n : Nat) (xs : List Value) : Zt where
 blk := v.ownBlock
 ok w := w.ownsRow 0 e size v n xs
 loc w w' h hb := by
  refine ⟨h.1, ?_⟩
  rcases h.2 with hn | ⟨g, cap, cur, rfl, hg, hgg, rest⟩
  ·exact .inl hn
  exact .inr ⟨g, cap, cur, rfl, hg, (hb g rfl).trans hgg, rest⟩
 lt w h b hb := (h.lt b hb).2
theorem Wq (g o j : Nat) : (⟨g, o, none⟩ : Addr).add j = ⟨g, o + j, none⟩ := by unfold Addr.add; split <;> simp_all
theorem ZW {w : World} {base e size n : Nat} {v : Value} {xs : List Value} (h : w.ownsRow base e size v n xs) : ∃ A cap, v = .slice A n cap := by
 rcases h.2 with ⟨rfl, rfl⟩ | ⟨g, cap, cur, rfl, _⟩
 ·exact ⟨none, 0, rfl⟩
 exact ⟨_, cap, rfl⟩
theorem Yh {w : World} {base e size n n' c : Nat} {A : Option Addr} {xs : List Value} (h : w.ownsRow base e size (.slice A n' c) n xs) : n' = n /\ n <= c := by
 rcases h.2 with ⟨h, hn⟩ | ⟨g, cap, cur, h, _, _, hc, _⟩
 ·injection h with _ h1 h2; omega
 injection h with _ h1 h2; omega
theorem own_mono {w : World} {base base' e size n : Nat} {v : Value} {xs : List Value} (h : w.ownsRow base e size v n xs) (hb : base' <= base) : w.ownsRow base' e size v n xs := by
 refine ⟨h.1, ?_⟩
 rcases h.2 with h2 | ⟨g, cap, cur, hv, hg, r⟩
 ·exact .inl h2
 exact .inr ⟨g, cap, cur, hv, by omega, r⟩
section
variable {I J : Zh} {M : List Zt} {w w' : World} {r s a b c d x : Zt}
theorem St.head (h : St I (r :: M) w) : r.ok w := h.res r (by simp)
theorem St.at (h : St I M w) (k : Nat) (hk : M[k]? = some r) : r.ok w := h.res r (List.mem_of_getElem? hk)
theorem St.drop (h : St I (r :: M) w) : St I M w :=
 ⟨h.os, h.tape, h.output, h.img, fun s hs => h.res s (List.mem_cons_of_mem _ hs), h.apart.of_cons, fun s hs => h.away s (List.mem_cons_of_mem _ hs)⟩
theorem St.perm {N : List Zt} (h : St I M w) (p : M.Perm N) : St I N w :=
 ⟨h.os, h.tape, h.output, h.img, fun r hr => h.res r (p.symm.subset hr), p.pairwise h.apart (fun h => h.symm), fun r hr => h.away r (p.symm.subset hr)⟩
theorem St.ZQ (h : St I (a :: b :: M) w) : St I (b :: a :: M) w := h.perm (.swap _ _ _)
theorem St.Ya (h : St I (a :: b :: c :: M) w) : St I (c :: b :: a :: M) w := h.perm ((((List.Perm.swap b a (c :: M)).trans ((List.Perm.swap c a M).cons b)).trans (List.Perm.swap c b (a :: M))))
theorem St.swap4 (h : St I (a :: b :: c :: d :: x :: M) w) : St I (x :: b :: c :: d :: a :: M) w := by
 have h1 : (a :: b :: c :: d :: x :: M).Perm (x :: b :: c :: d :: a :: M) := by
  have e1 : (a :: b :: c :: d :: x :: M) = [a] ++ ([b, c, d] ++ [x]) ++ M := rfl
  have e2 : (x :: b :: c :: d :: a :: M) = [x] ++ ([b, c, d] ++ [a]) ++ M := rfl
  rw [e1, e2]
  refine List.Perm.append_right M ?_
  refine (List.perm_append_comm (l₁ := [a]) (l₂ := [b, c, d] ++ [x])).trans ?_
  rw [List.append_assoc]
  refine (List.perm_append_comm (l₁ := [b, c, d]) (l₂ := [x] ++ [a])).trans ?_
  rw [List.append_assoc]
  exact List.Perm.append_left [x] List.perm_append_comm
 exact h.perm h1
theorem St.same (h : St I M w) (ho : w'.os = w.os) (ht : w'.tape = w.tape) (hu : w'.output = w.output) (hb : ∀ k : Nat, (∃ o : Obj, w.heap[k]? = some o) -> w'.heap[k]? = w.heap[k]?) : St I M w' :=
 ⟨ho.trans h.os, ht.trans h.tape, hu.trans h.output, fun k o hk => (hb k ⟨o, h.img k o hk⟩).trans (h.img k o hk),
  fun r hr => r.loc w w' (h.res r hr) (fun b hb' => hb b (by have := r.lt w (h.res r hr) b hb'; exact ⟨_, Array.getElem?_eq_getElem this⟩)), h.apart, h.away⟩
theorem St.drew (h : St I M w) : St I M w.drew := h.same rfl rfl rfl (fun _ _ => rfl)
theorem St.drewN (h : St I M w) (n : Nat) : St I M (w.drewN n) := h.same rfl rfl rfl (fun _ _ => rfl)
theorem St.grow (h : St I M w) (o : Obj) : St I M (w.alloc o) := h.same rfl rfl rfl (fun k hk => by
 obtain ⟨_, hk⟩ := hk
 exact Below.heap_alloc w o k (Array.getElem?_eq_some_iff.1 hk).1)
theorem St.more (h : St I M w') (hr : r.ok w') (hnew : ∀ b, r.blk = some b -> w.heap[b]? = none) (h0 : St I M w) : St I (r :: M) w' := by
 refine ⟨h.os, h.tape, h.output, h.img, ?_, ?_, ?_⟩
 ·intro s hs
  rcases List.mem_cons.1 hs with rfl | hs
  ·exact hr
  exact h.res s hs
 ·refine List.pairwise_cons.2 ⟨fun s hs b hb hsb => ?_, h.apart⟩
  have := s.lt w (h0.res s hs) b hsb
  have hn := hnew b hb
  rw [Array.getElem?_eq_getElem this] at hn
  cases hn
 intro s hs b hb
 rcases List.mem_cons.1 hs with rfl | hs
 ·cases ho : I.obj b with
  | none => rfl
  | some o => have := h0.img b o ho; rw [hnew b hb] at this; cases this
 exact h.away s hs b hb
theorem St.alloc (h : St I M w) (t : TypeId) (cs : Array Value) : St I (bk w.heap.size t cs :: M) (w.alloc (.cells cs t)) :=
 St.more (w := w) (h.grow _) (heap_alloc_new w _) (fun b hb => by injection hb with hb; subst hb; simp) h
theorem St.turn {r' : Zt} (h : St I (r :: M) w) (ho : w'.os = w.os) (ht : w'.tape = w.tape) (hu : w'.output = w.output)
  (hb : ∀ k, k < w.heap.size -> some k ≠ r.blk -> w'.heap[k]? = w.heap[k]?) (hr : r'.ok w') (hat : ∀ b, r'.blk = some b -> r.blk = some b \/ w.heap.size <= b) : St I (r' :: M) w' := by
 have hne : ∀ s ∈ M, ∀ b, s.blk = some b -> w'.heap[b]? = w.heap[b]? := fun s hs b hsb => by
  refine hb b (s.lt w (h.res s (List.mem_cons_of_mem _ hs)) b hsb) (fun e => ?_)
  exact (List.pairwise_cons.1 h.apart).1 s hs b e.symm hsb
 refine ⟨ho.trans h.os, ht.trans h.tape, hu.trans h.output, fun k o hk => ?_, ?_, ?_, ?_⟩
 ·have h1 := h.img k o hk
  refine (hb k (Array.getElem?_eq_some_iff.1 h1).1 (fun e => ?_)).trans h1
  have := h.away r (by simp) k e.symm
  rw [hk] at this; cases this
 ·intro s hs
  rcases List.mem_cons.1 hs with rfl | hs
  ·exact hr
  exact s.loc w w' (h.res s (List.mem_cons_of_mem _ hs)) (hne s hs)
 ·refine List.pairwise_cons.2 ⟨fun s hs b hb' hsb => ?_, h.apart.of_cons⟩
  rcases hat b hb' with h1 | h1
  ·exact (List.pairwise_cons.1 h.apart).1 s hs b h1 hsb
  have := s.lt w (h.res s (List.mem_cons_of_mem _ hs)) b hsb
  omega
 intro s hs b hb'
 rcases List.mem_cons.1 hs with rfl | hs
 ·rcases hat b hb' with h1 | h1
  ·exact h.away r (by simp) b h1
  cases ho : I.obj b with
  | none => rfl
  | some o =>
   have := (Array.getElem?_eq_some_iff.1 (h.img b o ho)).1
   omega
 exact h.away s (List.mem_cons_of_mem _ hs) b hb'
theorem ZO.set {g : Nat} {t : TypeId} {cs : Array Value} (h : ZO w g t cs) (i : Nat) (u : Value) : ZO (w.setCell ⟨g, i, none⟩ u) g t (cs.setIfInBounds i u) := by
 unfold ZO at h ⊢
 simp [World.setCell, Array.getElem?_modify, h]
theorem St.set {g : Nat} {t : TypeId} {cs : Array Value} (h : St I (bk g t cs :: M) w) (i : Nat) (u : Value) : St I (bk g t (cs.setIfInBounds i u) :: M) (w.setCell ⟨g, i, none⟩ u) :=
 h.turn rfl rfl rfl (fun k _ hne => Below.heap_setCell _ _ _ _ (fun e => hne (by rw [e]; rfl))) (ZO.set h.head i u) (fun _ hb => .inl hb)
theorem St.grown {e size n n' : Nat} {v v' : Value} {xs xs' : List Value} (h : St I (row e size v n xs :: M) w) (hg : w.grownBy w' v.ownBlock) (ho : w'.ownsRow 0 e size v' n' xs') (hat : v'.ownBlock = v.ownBlock \/ v'.ownBlock = some w.heap.size) :
  St I (row e size v' n' xs' :: M) w' :=
 h.turn hg.os hg.tape hg.output hg.block ho (fun b hb => by
  rcases hat with h1 | h1
  ·exact .inl (h1.symm.trans hb)
  refine .inr ?_
  have : v'.ownBlock = some b := hb
  rw [h1] at this; injection this with this; omega)
theorem St.fresh {e size n : Nat} {v : Value} {xs : List Value} (h0 : St I M w) (h : St I M w') (ho : w'.ownsRow w.heap.size e size v n xs) : St I (row e size v n xs :: M) w' :=
 St.more (w := w) h (own_mono ho (Nat.zero_le _)) (fun b hb => by
  have := (ho.lt b hb).1
  simp; omega) h0
theorem St.below (h : St I M w) (hb : Below w.heap.size w w') : St I M w' :=
 h.same hb.os hb.tape hb.output (fun k hk => by obtain ⟨_, hk⟩ := hk; exact hb.block k (Array.getElem?_eq_some_iff.1 hk).1)
theorem St.nil {e size : Nat} (h : St I M w) : St I (row e size (.slice none 0 0) 0 [] :: M) w :=
 St.more (w := w) h (World.ownsRow_nil _ _ _ _) (fun b hb => by cases hb) h
end
def Zh.cell? (I : Zh) (a : Addr) : Option Value := match I.obj a.block with
 | some (.cells c _ _) => if a.spot.isSome then none else c[a.off]?
 | _ => none
theorem Zh.le.cell {I J : Zh} (h : I.le J) {a : Addr} {v : Value} (hc : I.cell? a = some v) : J.cell? a = some v := by
 unfold Zh.cell? at *
 cases ho : I.obj a.block with
 | none => rw [ho] at hc; cases hc
 | some o => rw [h.obj _ _ ho]; rw [ho] at hc; exact hc
theorem St.cell {I : Zh} {M : List Zt} {w : World} (h : St I M w) {a : Addr} {v : Value} (hc : I.cell? a = some v) : w.cell? a = some v := by
 unfold Zh.cell? at hc
 unfold World.cell?
 cases ho : I.obj a.block with
 | none => rw [ho] at hc; cases hc
 | some o => rw [h.img _ _ ho]; rw [ho] at hc; exact hc
def Cells (I : Zh) (A : Option Addr) (cs : List Value) : Prop := 0 < cs.length -> ∃ g o, A = some ⟨g, o, none⟩ /\ ∀ j (h : j < cs.length), I.cell? ⟨g, o + j, none⟩ = some cs[j]
theorem Cells.mono {I J : Zh} {A : Option Addr} {cs : List Value} (h : Cells I A cs) (hl : I.le J) : Cells J A cs := fun h0 => by
 obtain ⟨g, o, e, hc⟩ := h h0
 exact ⟨g, o, e, fun j hj => hl.cell (hc j hj)⟩
theorem Cells.nil (I : Zh) (A : Option Addr) : Cells I A [] := fun h => absurd h (by simp)
theorem Cells.at {I : Zh} {A : Option Addr} {cs : List Value} (h : Cells I A cs) (h0 : 0 < cs.length) : ∃ g o, A = some ⟨g, o, none⟩ /\ ∀ (M : List Zt) (w : World), St I M w -> ∀ j (h : j < cs.length), w.cell? ⟨g, o + j, none⟩ = some cs[j] := by
 obtain ⟨g, o, e, hc⟩ := h h0
 exact ⟨g, o, e, fun M w hs j hj => hs.cell (hc j hj)⟩
theorem Cells.src {P : Program} {I : Zh} {M : List Zt} {w : World} {A : Option Addr} {cs : List Value} {t e : TypeId} {size n : Nat} (h : Cells I A cs) (hs : St I M w) (hl : cs.length = n * size) (h1 : 0 < size) (ht : P.underlying t = some (.slice e)) (c : Nat) (hone : ∀ u ∈ cs, u.oneCell' = true) :
  Src P size t (.slice A n c) n cs w := by
 match A with
 | none =>
  have h0 : cs = [] := by
   rcases cs with _ | ⟨b, r⟩
   ·rfl
   obtain ⟨_, _, e, _⟩ := h (by simp); cases e
  subst h0
  have : n = 0 := by simp at hl; rcases Nat.eq_zero_or_pos n with h | h; exact h; have := Nat.mul_pos h h1; omega
  subst this
  exact ⟨.inl ⟨e, ht⟩, fun _ => rfl, run_firstCells_none w size 0 0 c, run_firstCells_none w.drew size 0 0 c, by simp, fun _ h => by cases h⟩
 | some a =>
  refine Src.ofSlice w ht a n c cs hl (fun j u hj => ?_) hone
  have hl : j < cs.length := (List.getElem?_eq_some_iff.1 hj).1
  obtain ⟨g, o, e, hc⟩ := h (by omega)
  injection e with e
  subst e
  rw [Wq, hs.cell (hc j hl)]
  rw [List.getElem?_eq_getElem hl] at hj
  exact hj
def Zh.with (I : Zh) (w : World) (b : Nat) : Zh := { I with obj := fun k => if k = b then w.heap[b]? else I.obj k }
theorem St.freeze {I : Zh} {M : List Zt} {w : World} {r : Zt} {b : Nat} (h : St I (r :: M) w) (hb : r.blk = some b) : I.le (I.with w b) /\ St (I.with w b) M w := by
 refine ⟨⟨rfl, rfl, rfl, fun k o hk => ?_⟩, ⟨h.os, h.tape, h.output, fun k o hk => ?_, h.drop.res, h.drop.apart, fun s hs b' hb' => ?_⟩⟩
 ·show (if k = b then _ else _) = _
  by_cases e : k = b
  ·subst e
   have := h.away r (by simp) k hb
   rw [hk] at this; cases this
  rw [if_neg e]; exact hk
 ·replace hk : (if k = b then w.heap[b]? else I.obj k) = some o := hk
  by_cases e : k = b
  ·subst e
   rw [if_pos rfl] at hk; exact hk
  rw [if_neg e] at hk; exact h.img k o hk
 show (if b' = b then _ else _) = _
 rw [if_neg (fun e => ?_)]
 ·exact h.drop.away s hs b' hb'
 subst e
 exact (List.pairwise_cons.1 h.apart).1 s hs b' hb hb'
theorem Zh.with_cell {I : Zh} {w : World} {b o : Nat} : (I.with w b).cell? ⟨b, o, none⟩ = w.cell? ⟨b, o, none⟩ := by
 simp only [Zh.cell?, Zh.with, World.cell?, ↓reduceIte]
 cases w.heap[b]? with
 | none => rfl
 | some o => cases o <;> rfl
theorem St.ZR {I : Zh} {M : List Zt} {w : World} {e size n n' c : Nat} {A : Option Addr} {xs : List Value} (h : St I (row e size (.slice A n' c) n xs :: M) w) : ∃ J, I.le J /\ St J M w /\ Cells J A xs := by
 have ho : w.ownsRow 0 e size (.slice A n' c) n xs := h.head
 match A with
 | none =>
  refine ⟨I, .refl I, h.drop, ?_⟩
  rcases ho.2 with ⟨_, h0⟩ | ⟨g, cap, cur, hv, _⟩
  ·have := ho.1
   rw [h0, Nat.zero_mul] at this
   rw [List.eq_nil_of_length_eq_zero this]
   exact Cells.nil _ _
  injection hv with hv; cases hv
 | some a =>
  obtain ⟨h1, h2⟩ := h.freeze (b := a.block) rfl
  refine ⟨_, h1, h2, fun h0 => ?_⟩
  rcases ho.2 with ⟨hv, _⟩ | ⟨g, cap, cur, hv, _, hg, _⟩
  ·injection hv with hv; cases hv
  injection hv with hv _ _
  injection hv with hv
  subst hv
  refine ⟨g, 0, rfl, fun j hj => ?_⟩
  rw [Zh.with_cell]
  have := ho.cells (g := g) rfl j _ (List.getElem?_eq_getElem hj)
  rwa [Wq] at this
theorem St.Zg {I : Zh} {M : List Zt} {w : World} {g t : Nat} {cs : Array Value} (h : St I (bk g t cs :: M) w) : ∃ J, I.le J /\ St J M w /\ J.obj g = some (.cells cs t (0, 0)) := by
 obtain ⟨h1, h2⟩ := h.freeze (b := g) rfl
 refine ⟨_, h1, h2, ?_⟩
 show (if g = g then _ else _) = _
 rw [if_pos rfl]; exact h.head
def Zh.of (w : World) : Zh := ⟨w.os, w.tape, w.output, fun k => w.heap[k]?⟩
theorem St.of (w : World) : St (Zh.of w) [] w := ⟨rfl, rfl, rfl, fun _ _ h => h, fun _ h => (by cases h), .nil, fun _ h => (by cases h)⟩
theorem Zh.of_cell (w : World) (a : Addr) : (Zh.of w).cell? a = w.cell? a := by
 simp only [Zh.cell?, Zh.of, World.cell?]
 cases w.heap[a.block]? with
 | none => rfl
 | some o => cases o <;> rfl
theorem St.end_ {I J : Zh} {M : List Zt} {w w' : World} (hI : I = Zh.of w) (h : St J M w') (hl : I.le J) : Below w.heap.size w w' := by
 subst hI
 have hb : ∀ k, k < w.heap.size -> w'.heap[k]? = w.heap[k]? := fun k hk => by
  have : (Zh.of w).obj k = some w.heap[k] := Array.getElem?_eq_getElem hk
  rw [h.img k _ (hl.obj k _ this), Array.getElem?_eq_getElem hk]
 refine ⟨h.os.trans hl.os, h.tape.trans hl.tape, h.output.trans hl.output, ?_, hb⟩
 rcases Nat.eq_zero_or_pos w.heap.size with h0 | h0
 ·omega
 have h1 := (hb (w.heap.size - 1) (by omega)).trans (Array.getElem?_eq_getElem (by omega))
 have := (Array.getElem?_eq_some_iff.1 h1).1
 omega
def YR (I : Zh) (Q : Value -> Zh -> List Zt -> Prop) (e : Ending) (w : World) : Prop := ∃ v J M, e = .returned v /\ I.le J /\ St J M w /\ Q v J M
theorem YR.mk {I J : Zh} {M : List Zt} {w : World} {v : Value} {Q : Value -> Zh -> List Zt -> Prop} (hl : I.le J) (hs : St J M w) (hq : Q v J M) : YR I Q (.returned v) w := ⟨v, J, M, rfl, hl, hs, hq⟩
section
variable {P : Program} (w : World)
theorem run_append_src (base : Nat) (t tx ty e : TypeId) (i : TypeInfo) (z : Value) (size bytes : Nat) (ht : P.underlying t = some (.slice e)) (hi : P.info? e = some i) (hz : i.zero = some z)
  (hsize : i.size = size) (hby : i.bytes = bytes) (hzs : z.cells.size = size)
  (v : Value) (n : Nat) (xs : List Value) (hown : w.ownsRow base e size v n xs) (x : Value) (m : Nat) (news : List Value) (hs : Src P size tx x m news w)
  (h63 : n + m <= maxLen) (hbytes : (n + m) * bytes <= 140737488355328) (hbase : base <= w.heap.size) :
  ∃ v' w', (Builtin.append_ #[t, tx] ty #[v, x]).run P w = .ok v' w' /\ w'.ownsRow base e size v' (n + m) (xs ++ news) /\ w.grownBy w' v.ownBlock /\
   (v'.ownBlock = v.ownBlock \/ v'.ownBlock = some w.heap.size) := by
 subst hsize
 subst hby
 have hl := hs.newsLen
 have hlen : (xs ++ news).length = (n + m) * i.size := by rw [List.length_append, hown.1, hl, Nat.add_mul]
 have h63' : ((n + m : Nat) : Int) <= 9223372036854775807 := by simp only [maxLen] at h63; omega
 have grown : ∀ (old : Nat), ∀ (row : Option Nat),
   (w.drew.alloc (.cells ((xs ++ news).toArray ++ Builtin.zeroCells z.cells (grownCap w (n + m) old e - (n + m))) e)).ownsRow base e i.size
    (.slice (some ⟨w.heap.size, 0, none⟩) (n + m) (grownCap w (n + m) old e)) (n + m) (xs ++ news) /\
   w.grownBy (w.drew.alloc (.cells ((xs ++ news).toArray ++ Builtin.zeroCells z.cells (grownCap w (n + m) old e - (n + m))) e)) row := by
  intro old row
  have hge := grownCap_ge w (n + m) old e
  have hcm : grownCap w (n + m) old e <= maxLen := grownCap_le_maxLen w (n + m) old e h63
  refine ⟨⟨hlen, .inr ⟨w.heap.size, _, _, rfl, hbase, heap_alloc_new w.drew _, hge, hcm, ?_, ?_⟩⟩, ⟨rfl, rfl, rfl, by simp, fun k hk _ => Below.heap_alloc w.drew _ k hk⟩⟩
  ·simp only [Array.size_append, List.size_toArray, size_zeroCells, hzs, hlen, <- Nat.add_mul]
   congr 1
   omega
  simp only [Array.toList_append]
  rw [<- hlen]
  exact List.take_left
 rcases hown.2 with ⟨rfl, rfl⟩ | ⟨g, cap, cur, rfl, hbg, hg, hnc, hcm, hcs, htake⟩
 ·have hx : xs = [] := List.eq_nil_of_length_eq_zero (by simpa using hown.1)
  subst hx
  by_cases hm : m = 0
  ·subst hm
   have hn : news = [] := List.eq_nil_of_length_eq_zero (by simpa using hl)
   subst hn
   refine ⟨.slice none 0 0, w, ?_, World.ownsRow_nil w base e i.size, ⟨rfl, rfl, rfl, Nat.le_refl _, fun _ _ _ => rfl⟩, Or.inl rfl⟩
   rcases hs.kind with ⟨e', hk⟩ | hk <;> simp [Builtin.append_, run_underlying ht, run_underlying hk, sizeOf, typeInfo, hi, hs.len, hs.cells]
  have hr := run_append_grow_src (P := P) w t tx ty e i z ht hi hz none 0 0 [] (run_firstCells_none w.drew i.size 0 0 0) x m news hs (by omega) (by simpa using h63') (growslice_fits (by omega) (by simpa using hbytes))
  have hgr := grown 0 (Value.ownBlock (.slice none 0 0))
  simp only [Nat.zero_add, List.nil_append] at hgr hr ⊢
  exact ⟨_, _, hr, hgr.1, hgr.2, Or.inr rfl⟩
 by_cases hroom : n + m <= cap
 ·have hfit : n * i.size + news.length <= cur.size := by rw [hl, hcs, <- Nat.add_mul]; exact Nat.mul_le_mul_right _ hroom
  have ZX := run_storeCells_at P g (n * i.size) e news 0 cur w hg (by simpa using hfit) hs.one
  simp only [Nat.add_zero] at ZX
  have hr : (Builtin.append_ #[t, tx] ty #[.slice (some ⟨g, 0, none⟩) n cap, x]).run P w =
    .ok (.slice (some ⟨g, 0, none⟩) (n + m) cap) (w.setRow g (cur.toList.take (n * i.size) ++ news ++ cur.toList.drop (n * i.size + news.length)).toArray) := by
   rcases hs.kind with ⟨e', hk⟩ | hk <;> simp [Builtin.append_, run_underlying ht, run_underlying hk, sizeOf, typeInfo, hi, hs.len, hroom, hs.cells, Addr.add_lit, ZX]
  refine ⟨_, _, hr, ⟨hlen, .inr ⟨g, cap, _, rfl, hbg, setRow_heap w g cur _ e _ hg, hroom, hcm, ?_, ?_⟩⟩, ⟨rfl, rfl, rfl, by simp, fun k _ hk => setRow_other w g k _ (fun e => hk (by simp [Value.ownBlock, e]))⟩, Or.inl rfl⟩
  ·simp only [List.size_toArray, List.length_append, List.length_take, List.length_drop, Array.length_toList]
   omega
  rw [htake, <- hlen]
  exact List.take_left
 have holds : ∀ j u, xs[j]? = some u -> w.drew.cell? ((⟨g, 0, none⟩ : Addr).add j) = some u := hown.cells (g := g) rfl
 have hr := run_append_grow_src (P := P) w t tx ty e i z ht hi hz (some ⟨g, 0, none⟩) n cap xs (run_firstCells_some w.drew i.size n _ n cap xs hown.1 holds) x m news hs (by omega) h63' (growslice_fits (by omega) hbytes)
 have hgr := grown cap (Value.ownBlock (.slice (some ⟨g, 0, none⟩) n cap))
 exact ⟨_, _, hr, hgr.1, hgr.2, Or.inr rfl⟩
theorem wp_append_src {o : Oper} {a : Act} {K : Act -> World -> Prop} {Q : Exit -> Act -> World -> Prop} (s y : Operand) (t tx : TypeId)
  (ho : o.op = .call { callee := .builtin .append, args := #[s, y], argTypes := #[t, tx] })
  (base e : Nat) (i : TypeInfo) (z : Value) (size bytes : Nat) (ht : P.underlying t = some (.slice e)) (hi : P.info? e = some i) (hz : i.zero = some z)
  (hsize : i.size = size) (hby : i.bytes = bytes) (hzs : z.cells.size = size)
  (v : Value) (n : Nat) (xs : List Value) (hv : a.eval s = v) (hown : w.ownsRow base e size v n xs) (x : Value) (m : Nat) (news : List Value) (hx : a.eval y = x) (hs : Src P size tx x m news w)
  (h63 : n + m <= maxLen) (hbytes : (n + m) * bytes <= 140737488355328) (hbase : base <= w.heap.size)
  (h : ∀ v' w', w'.ownsRow base e size v' (n + m) (xs ++ news) -> w.grownBy w' v.ownBlock -> (v'.ownBlock = v.ownBlock \/ v'.ownBlock = some w.heap.size) -> K (a.put o.dst v') w') : o.wp P a w K Q := by
 obtain ⟨v', w', hr, h2, h3, h4⟩ := run_append_src (P := P) w base t tx o.type e i z size bytes ht hi hz hsize hby hzs v n xs hown x m news hs h63 hbytes hbase
 unfold Oper.wp execOp
 simp only [ho, resolve, invoke, builtin, Sem.run_bind, Sem.run_pure, Result.andThen_ok, List.map_toArray, List.map_cons, List.map_nil, hv, hx, hr]
 exact h v' w' h2 h3 h4
theorem Zj {ops : Array Oper} {rest : List Oper} {o : Oper} {a : Act} {Q : Exit -> Act -> World -> Prop} (hgd : o.guard = none) (s y : Operand) (t tx : TypeId)
  (ho : o.op = .call { callee := .builtin .append, args := #[s, y], argTypes := #[t, tx] })
  (base e : Nat) (i : TypeInfo) (z : Value) (size bytes : Nat) (ht : P.underlying t = some (.slice e)) (hi : P.info? e = some i) (hz : i.zero = some z)
  (hsize : i.size = size) (hby : i.bytes = bytes) (hzs : z.cells.size = size)
  (v : Value) (n : Nat) (xs : List Value) (hv : a.eval s = v) (hown : w.ownsRow base e size v n xs) (x : Value) (m : Nat) (news : List Value) (hx : a.eval y = x) (hs : Src P size tx x m news w)
  (h63 : n + m <= maxLen) (hbytes : (n + m) * bytes <= 140737488355328) (hbase : base <= w.heap.size)
  (h : ∀ v' w', w'.ownsRow base e size v' (n + m) (xs ++ news) -> w.grownBy w' v.ownBlock -> (v'.ownBlock = v.ownBlock \/ v'.ownBlock = some w.heap.size) -> wpList P ops Q rest (a.put o.dst v') w') : wpList P ops Q (o :: rest) a w :=
 wpList_plain hgd fun _ hK => wp_append_src w s y t tx ho base e i z size bytes ht hi hz hsize hby hzs v n xs hv hown x m news hx hs h63 hbytes hbase fun v' w' h2 h3 h4 => hK _ _ (h v' w' h2 h3 h4)
theorem YU {ops : Array Oper} {o : Oper} {a : Act} {K : Act -> World -> Prop} {Q : Exit -> Act -> World -> Prop} {E : Prop} (hgd : o.guard = none) (s y : Operand) (t tx : TypeId)
  (ho : o.op = .call { callee := .builtin .append, args := #[s, y], argTypes := #[t, tx] })
  (base e : Nat) (i : TypeInfo) (z : Value) (size bytes : Nat) (ht : P.underlying t = some (.slice e)) (hi : P.info? e = some i) (hz : i.zero = some z)
  (hsize : i.size = size) (hby : i.bytes = bytes) (hzs : z.cells.size = size)
  (v : Value) (n : Nat) (xs : List Value) (hv : a.eval s = v) (hown : w.ownsRow base e size v n xs) (x : Value) (m : Nat) (news : List Value) (hx : a.eval y = x) (hs : Src P size tx x m news w)
  (h63 : n + m <= maxLen) (hbytes : (n + m) * bytes <= 140737488355328) (hbase : base <= w.heap.size)
  (h : ∀ v' w', w'.ownsRow base e size v' (n + m) (xs ++ news) -> w.grownBy w' v.ownBlock -> (v'.ownBlock = v.ownBlock \/ v'.ownBlock = some w.heap.size) -> K (a.put o.dst v') w') :
  if Region.wanted o (yielded ops a.tmps) = true then Oper.wp P o a w K Q else E := by
 have hw : Region.wanted o (yielded ops a.tmps) = true := by simp [Region.wanted, hgd]
 rw [if_pos hw]
 exact wp_append_src w s y t tx ho base e i z size bytes ht hi hz hsize hby hzs v n xs hv hown x m news hx hs h63 hbytes hbase h
end
def bv (c : UInt8) : Value := .int .u8 c.toNat
def Z6 (l : List UInt8) : List Value := l.map bv
theorem WG (a b : List UInt8) : Z6 (a ++ b) = Z6 a ++ Z6 b := List.map_append ..
theorem Xb (a : List UInt8) : (Z6 a).length = a.length := List.length_map ..
theorem bvs_one (a : List UInt8) : ∀ u ∈ Z6 a, u.oneCell' = true := by
 intro u hu
 obtain ⟨c, _, rfl⟩ := List.mem_map.1 hu
 rfl
def byteOf (n : Int) : UInt8 := UInt8.ofNat n.toNat
theorem Yz {n : Int} (h0 : 0 <= n) (h1 : n < 256) : bv (byteOf n) = .int .u8 n := by
 unfold bv byteOf
 congr 1
 have : n.toNat < 256 := by omega
 rw [UInt8.toNat_ofNat', Nat.mod_eq_of_lt (by simpa using this)]
 omega
def Zq (I : Zh) (A : Option Addr) (bs : List UInt8) : Prop := Cells I A (Z6 bs)
section
variable {I J : Zh} {M : List Zt} {w : World} {A : Option Addr} {bs : List UInt8}
theorem Zq.mono (h : Zq I A bs) (hl : I.le J) : Zq J A bs := Cells.mono h hl
theorem Zq.nil (I : Zh) (A : Option Addr) : Zq I A [] := Cells.nil I A
theorem Zq.at (h : Zq I A bs) (h0 : 0 < bs.length) : ∃ g o, A = some ⟨g, o, none⟩ /\ ∀ (M : List Zt) (w : World), St I M w -> ∀ j (h : j < bs.length), w.cell? ⟨g, o + j, none⟩ = some (.int .u8 bs[j].toNat) := by
 obtain ⟨g, o, e, hc⟩ := Cells.at h (by rw [Xb]; exact h0)
 refine ⟨g, o, e, fun M w hs j hj => ?_⟩
 rw [hc M w hs j (by rw [Xb]; exact hj)]
 simp [Z6, bv]
theorem Zq.src {P : Program} {t e : TypeId} (h : Zq I A bs) (hs : St I M w) (ht : P.underlying t = some (.slice e)) (c : Nat) : Src P 1 t (.slice A bs.length c) bs.length (Z6 bs) w :=
 Cells.src h hs (by rw [Xb, Nat.mul_one]) (by omega) ht c (bvs_one bs)
theorem Zq.take (h : Zq I A bs) (n : Nat) : Zq I A (bs.take n) := by
 intro h0
 rw [Xb, List.length_take] at h0
 obtain ⟨g, o, e, hc⟩ := h (by rw [Xb]; omega)
 refine ⟨g, o, e, fun j hj => ?_⟩
 rw [Xb, List.length_take] at hj
 rw [hc j (by rw [Xb]; omega)]
 simp [Z6]
theorem Zq.drop (h : Zq I A bs) {n c : Nat} (hc : bs.length <= c) : Zq I (if c = n then A else A.map (·.add n)) (bs.drop n) := by
 intro h0
 rw [Xb, List.length_drop] at h0
 obtain ⟨g, o, rfl, ZK⟩ := h (by rw [Xb]; omega)
 rw [if_neg (by omega)]
 refine ⟨g, o + n, by simp [Wq], fun j hj => ?_⟩
 rw [Xb, List.length_drop] at hj
 rw [Nat.add_assoc, ZK (n + j) (by rw [Xb]; omega)]
 simp [Z6]
theorem Zq.conv {P : Program} {t e s : TypeId} (h : Zq I A bs) (hs : St I M w) (ht : P.underlying t = some (.slice e)) (he : P.underlying e = some (.int .u8)) (ZX : P.underlying s = some .string) (c : Nat) : (convert t s (.slice A bs.length c)).run P w = .ok (.string ⟨bs.toArray⟩) w := by
 match A with
 | none =>
  have h0 : bs = [] := by
   rcases bs with _ | ⟨b, r⟩
   ·rfl
   obtain ⟨_, _, e, _⟩ := h (by simp [Z6]); cases e
  subst h0
  exact run_convert_bytes_nil w t e ht he 0 c s ZX
 | some a =>
  refine run_convert_bytes_back w t s e a c bs ht he ZX (fun j hj => ?_)
  obtain ⟨g, o, e, hc⟩ := Zq.at h (by omega)
  injection e with e
  subst e
  rw [Wq]
  exact hc M w hs j hj
end
theorem Zq.at0 {I : Zh} {A : Option Addr} {c : UInt8} {bs : List UInt8} (h : Zq I A (c :: bs)) : ∃ g o, A = some ⟨g, o, none⟩ /\ (∀ (M : List Zt) (w : World), St I M w -> w.cell? ⟨g, o, none⟩ = some (.int .u8 c.toNat)) /\ Zq I (some ⟨g, o + 1, none⟩) bs := by
 obtain ⟨g, o, e, hc⟩ := h (by simp [Z6])
 refine ⟨g, o, e, fun M w hs => hs.cell (hc 0 (by simp [Z6])), fun h0 => ⟨g, o + 1, rfl, fun j hj => ?_⟩⟩
 have := hc (j + 1) (by simp [Z6] at hj ⊢; omega)
 rw [Nat.add_assoc, Nat.add_comm 1 j, this]
 rfl
theorem St.rowAt {I : Zh} {M : List Zt} {w : World} {e n n' c : Nat} {A : Option Addr} {l : List UInt8} (h : St I (row e 1 (.slice A n' c) n (Z6 l) :: M) w) (h0 : 0 < l.length) :
  ∃ g, A = some ⟨g, 0, none⟩ /\ n' = n /\ g < w.heap.size /\ (∀ k, k < l.length -> w.cell? ⟨g, k, none⟩ = some (.int .u8 (l.getD k 0).toNat)) /\ (∀ k, w.frozen? ⟨g, k, none⟩ = false) := by
 have ho : w.ownsRow 0 e 1 (.slice A n' c) n (Z6 l) := h.head
 rcases ho.2 with ⟨hv, hn⟩ | ⟨g, cap, cur, hv, _, hg, _⟩
 ·have := ho.1; rw [hn, Xb] at this; omega
 have hv' := hv
 injection hv with hA hn _
 subst hA hn
 refine ⟨g, rfl, rfl, (Array.getElem?_eq_some_iff.1 hg).1, fun k hk => ?_, fun k => frozen_of_row w g k cur e hg⟩
 have := ho.cells (g := g) rfl k (bv l[k]) (by simp [Z6, hk])
 rw [Wq, Nat.zero_add] at this
 rw [this]
 simp [bv, hk]
theorem St.rowSet {I : Zh} {M : List Zt} {w : World} {e n c g : Nat} {l : List UInt8} (h : St I (row e 1 (.slice (some ⟨g, 0, none⟩) n c) n (Z6 l) :: M) w) (k : Nat) (x : UInt8) :
  St I (row e 1 (.slice (some ⟨g, 0, none⟩) n c) n (Z6 (l.set k x)) :: M) (w.setCell ⟨g, k, none⟩ (.int .u8 x.toNat)) := by
 have ho : w.ownsRow 0 e 1 (.slice (some ⟨g, 0, none⟩) n c) n (Z6 l) := h.head
 have hs := ho.stored k (bv x)
 have e1 : Z6 (l.set k x) = (Z6 l).set k (bv x) := by simp [Z6, List.map_set]
 rw [e1]
 exact St.grown h hs.2 hs.1 (.inl rfl)
theorem Zq.Yv {I : Zh} {g t : Nat} {cs : Array Value} {l : List UInt8} (h : I.obj g = some (.cells cs t (0, 0))) (hl : cs.toList = Z6 l) : Zq I (some ⟨g, 0, none⟩) l := by
 intro _
 refine ⟨g, 0, rfl, fun j hj => ?_⟩
 simp only [Zh.cell?, h, Nat.zero_add]
 have : cs[j]? = cs.toList[j]? := by simp
 rw [this, hl]
 simp [List.getElem?_eq_getElem hj]
section
variable {I J : Zh} {M : List Zt} {w w2 : World} {a b c d : Zt} {g q : Nat} {t e : TypeId} {cs : Array Value} {o : Obj}
theorem ZO.all (h : ZO w g t cs) : (∀ i, w.cell? ⟨g, i, none⟩ = cs[i]?) /\ (∀ i, w.frozen? ⟨g, i, none⟩ = false) /\ g < w.heap.size := ⟨h.cell, h.frozen, h.lt⟩
theorem St.setR (h : St I (bk g t cs :: M) w) (cs' : Array Value) : St I (bk g t cs' :: M) (w.setRow g cs') :=
 h.turn rfl rfl rfl (fun k _ hne => setRow_other w g k cs' (fun e => hne (by rw [e]; rfl))) (setRow_heap w g cs cs' t _ h.head) (fun _ hb => .inl hb)
theorem St.YS (h : St I (a :: bk g t cs :: M) w) (cs' : Array Value) : St I (a :: bk g t cs' :: M) (w.setRow g cs') := (h.ZQ.setR cs').ZQ
theorem St.set4 (h : St I (a :: b :: c :: d :: bk g t cs :: M) w) (i : Nat) (u : Value) : St I (a :: b :: c :: d :: bk g t (cs.setIfInBounds i u) :: M) (w.setCell ⟨g, i, none⟩ u) := (h.swap4.set i u).swap4
theorem St.less (h : St J M w) (hl : I.le J) : St I M w :=
 ⟨h.os.trans hl.os, h.tape.trans hl.tape, h.output.trans hl.output, fun k o hk => h.img k o (hl.obj k o hk), h.res, h.apart, fun r hr b hb => by
  have := h.away r hr b hb
  cases e : I.obj b with
  | none => rfl
  | some o => rw [hl.obj b o e] at this; cases this⟩
theorem St.litSrc {P : Program} (h : St I M w) (l : List UInt8) (hcs : cs.toList = Z6 l) (ht : P.underlying t = some (.slice e)) :
  Src P 1 t (.slice (some ⟨w.heap.size, 0, none⟩) l.length l.length) l.length (Z6 l) (w.alloc (.cells cs e)) := by
 obtain ⟨J, _, hs, ho⟩ := (h.alloc e cs).Zg
 exact (Zq.Yv ho hcs).src hs ht l.length
theorem Cells.Yv {I : Zh} {g t : Nat} {cs : Array Value} (h : I.obj g = some (.cells cs t (0, 0))) : Cells I (some ⟨g, 0, none⟩) cs.toList := by
 intro _
 refine ⟨g, 0, rfl, fun j hj => ?_⟩
 simp only [Zh.cell?, h, Nat.zero_add]
 have : cs[j]? = cs.toList[j]? := by simp
 rw [this]
 simp [List.getElem?_eq_getElem hj]
theorem St.Yw {P : Program} {size n : Nat} (h : St I M w) (hl : cs.toList.length = n * size) (h1 : 0 < size) (ht : P.underlying t = some (.slice e)) (hone : ∀ u ∈ cs.toList, u.oneCell' = true) :
  Src P size t (.slice (some ⟨w.heap.size, 0, none⟩) n n) n cs.toList (w.alloc (.cells cs e)) := by
 obtain ⟨J, _, hs, ho⟩ := (h.alloc e cs).Zg
 exact (Cells.Yv ho).src hs hl h1 ht n hone
end
section
variable {P : Program}
end
theorem ret_eq {u v : Value} (h : u = v) : Ending.returned u = Ending.returned v := by rw [h]
theorem Y9 (x : Int) : IntKind.u16.wrap x = x % 65536 := by simp only [IntKind.wrap, IntKind.signed, IntKind.bits]; rfl
theorem u8_mod (x : Int) : IntKind.u8.wrap x = x % 256 := by simp only [IntKind.wrap, IntKind.signed, IntKind.bits]; rfl
theorem u64_mod (x : Int) : IntKind.u64.wrap x = x % 18446744073709551616 := by simp only [IntKind.wrap, IntKind.signed, IntKind.bits]; rfl
section
variable {I J : Zh} {M : List Zt} {w w' : World} {r r' : Zt}
theorem St.as (h : St I (r :: M) w) (hr : r'.ok w) (hb : r'.blk = r.blk) : St I (r' :: M) w :=
 h.turn rfl rfl rfl (fun _ _ _ => rfl) hr (fun b h2 => .inl (by rw [<- hb]; exact h2))
theorem St.rowBk {e s n n' c : Nat} {A : Option Addr} {xs : List Value} (h : St I (row e s (.slice A n' c) n xs :: M) w) (h0 : 0 < xs.length) :
  ∃ g cur, A = some ⟨g, 0, none⟩ /\ n' = n /\ n <= c /\ c <= maxLen /\ cur.size = c * s /\ cur.toList.take (n * s) = xs /\ St I (bk g e cur :: M) w := by
 have ho : w.ownsRow 0 e s (.slice A n' c) n xs := h.head
 rcases ho.2 with ⟨_, hn⟩ | ⟨g, cap, cur, hv, _, hg, h1, h2, h3, h4⟩
 ·have := ho.1; rw [hn] at this; omega
 injection hv with hA hn hc
 subst hA hn hc
 exact ⟨g, cur, rfl, rfl, h1, h2, h3, h4, h.as (r' := bk g e cur) hg rfl⟩
theorem St.bkRow {g e s n c : Nat} {cur : Array Value} {xs : List Value} (h : St I (bk g e cur :: M) w) (h1 : n <= c) (h2 : c <= maxLen) (h3 : cur.size = c * s) (h4 : cur.toList.take (n * s) = xs) : St I (row e s (.slice (some ⟨g, 0, none⟩) n c) n xs :: M) w := by
 refine h.as (r' := row e s (.slice (some ⟨g, 0, none⟩) n c) n xs) ⟨?_, .inr ⟨g, c, cur, rfl, Nat.zero_le _, h.head, h1, h2, h3, h4⟩⟩ rfl
 rw [<- h4, List.length_take, Array.length_toList, h3]
 exact Nat.min_eq_left (Nat.mul_le_mul_right s h1)
theorem ZO.some {g t i : Nat} {cur : Array Value} (h : ZO w g t cur) (hi : i < cur.size) : ∃ v, w.cell? ⟨g, i, none⟩ = some v := ⟨cur[i], by rw [h.cell, Array.getElem?_eq_getElem hi]⟩
end
section
variable {P : Program} {w : World}
end
def idx {α : Type} (p : α -> Bool) (l : List α) : Int := match l.findIdx? p with | some i => (i : Int) | none => -1
theorem idx_hit {α : Type} {p : α -> Bool} {l : List α} {i : Nat} (hi : i < l.length) (h : p l[i] = true) (hno : ∀ j (hj : j < l.length), j < i -> p l[j] = false) : idx p l = i := by
 unfold idx
 rw [List.findIdx?_eq_some_iff_getElem.2 ⟨hi, h, fun j hj => by rw [hno j (by omega) hj]; simp⟩]
theorem idx_none {α : Type} {p : α -> Bool} {l : List α} (hno : ∀ j (hj : j < l.length), p l[j] = false) : idx p l = -1 := by
 unfold idx
 rw [List.findIdx?_eq_none_iff.2 (fun x hx => by obtain ⟨j, hj, rfl⟩ := List.getElem_of_mem hx; exact hno j hj)]
theorem idx_ways {α : Type} (p : α -> Bool) (l : List α) : (idx p l = -1 /\ ∀ x ∈ l, p x = false) \/ ∃ i, ∃ hi : i < l.length, idx p l = i /\ p l[i] = true /\ ∀ j (hj : j < l.length), j < i -> p l[j] = false := by
 unfold idx
 cases e : l.findIdx? p with
 | none => exact .inl ⟨rfl, List.findIdx?_eq_none_iff.1 e⟩
 | some i =>
  obtain ⟨hi, h, hno⟩ := List.findIdx?_eq_some_iff_getElem.1 e
  exact .inr ⟨i, hi, rfl, h, fun j hj hji => by simpa using hno j hji⟩
theorem idx_any {α : Type} (p : α -> Bool) (l : List α) : (decide (0 <= idx p l)) = l.any p := by
 rcases idx_ways p l with ⟨e, h⟩ | ⟨i, hi, e, h, _⟩
 ·rw [e]
  have : l.any p = false := by
   rw [List.any_eq_false]
   intro x hx
   rw [h x hx]; simp
  rw [this]; rfl
 rw [e, List.any_eq_true.2 ⟨_, List.getElem_mem hi, h⟩]
 exact decide_eq_true (by omega)
abbrev ls (s : ByteArray) : List UInt8 := s.data.toList
theorem ls_len (s : ByteArray) : (ls s).length = s.size := Array.length_toList
theorem ls_inj {s t : ByteArray} (h : ls s = ls t) : s = t := by
 apply ByteArray.ext
 exact Array.ext' h
end Go.Proofs.Ytddopbbmgpnjjaa
