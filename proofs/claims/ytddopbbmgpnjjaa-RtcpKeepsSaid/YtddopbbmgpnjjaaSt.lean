/- Words on memory: an image of what stays as it is, and a list of blocks that are owned. -/
import Derived.Test.YtddopbbmgpnjjaaRows
import Derived.WalkKit
import Derived.WalkSpells
import Derived.WalkLawsBesides
import Derived.Deep.QuietTactic
import Derived.BigQuiet
import Derived.Lib.Hide
import Derived.Maps.AppendAt
import Derived.Laws.OwnMore
import Derived.Deep.AppendSrc
import Derived.RegionTactic
import Derived.Deep.RegionHeld3
import Derived.Deep.DrawnRows
import Derived.Deep.DeepCutAuto
import Derived.Handy
namespace Go.Proofs.Ytddopbbmgpnjjaa
open Go.RowKit

/-- what stays as it is -/
structure Img where
  os : Os
  tape : Nat → Question → Nat
  output : Array (Nat × ByteArray)
  obj : Nat → Option Obj
/-- more is known -/
structure Img.le (I J : Img) : Prop where
  os : J.os = I.os
  tape : J.tape = I.tape
  output : J.output = I.output
  obj : ∀ k o, I.obj k = some o → J.obj k = some o
theorem Img.le.refl (I : Img) : I.le I := ⟨rfl, rfl, rfl, fun _ _ h => h⟩
theorem Img.le.trans {I J K : Img} (h : I.le J) (k : J.le K) : I.le K := ⟨k.os.trans h.os, k.tape.trans h.tape, k.output.trans h.output, fun i o hi => k.obj i o (h.obj i o hi)⟩

/-- something that is owned: it hangs on one block at most -/
structure Res where
  blk : Option Nat
  ok : World → Prop
  loc : ∀ w w' : World, ok w → (∀ b, blk = some b → w'.heap[b]? = w.heap[b]?) → ok w'
  lt : ∀ w, ok w → ∀ b, blk = some b → b < w.heap.size

def Apart (r s : Res) : Prop := ∀ b, r.blk = some b → s.blk ≠ some b
theorem Apart.symm {r s : Res} (h : Apart r s) : Apart s r := fun b hs hr => h b hr hs

structure St (I : Img) (M : List Res) (w : World) : Prop where
  os : w.os = I.os
  tape : w.tape = I.tape
  output : w.output = I.output
  img : ∀ k o, I.obj k = some o → w.heap[k]? = some o
  res : ∀ r ∈ M, r.ok w
  apart : M.Pairwise Apart
  away : ∀ r ∈ M, ∀ b, r.blk = some b → I.obj b = none

/-- a block that is known whole -/
def Blk (w : World) (g : Nat) (t : TypeId) (cs : Array Value) : Prop := w.heap[g]? = some (.cells cs t (0, 0))
section
variable {w w' : World} {g : Nat} {t : TypeId} {cs : Array Value}
theorem Blk.lt (h : Blk w g t cs) : g < w.heap.size := (Array.getElem?_eq_some_iff.1 h).1
theorem Blk.cell (h : Blk w g t cs) (i : Nat) : w.cell? ⟨g, i, none⟩ = cs[i]? := cell_of_row w g i cs t (0, 0) h
theorem Blk.frozen (h : Blk w g t cs) (i : Nat) : w.frozen? ⟨g, i, none⟩ = false := by
  unfold Blk at h
  simp [World.frozen?, h]
theorem Blk.one {a : Value} (h : Blk w g t #[a]) : w.cell? ⟨g, 0, none⟩ = some a ∧ w.frozen? ⟨g, 0, none⟩ = false ∧ g < w.heap.size := ⟨h.cell 0, h.frozen 0, h.lt⟩
theorem Blk.two {a b : Value} (h : Blk w g t #[a, b]) : w.cell? ⟨g, 0, none⟩ = some a ∧ w.cell? ⟨g, 1, none⟩ = some b ∧ w.frozen? ⟨g, 0, none⟩ = false ∧ w.frozen? ⟨g, 1, none⟩ = false ∧ g < w.heap.size :=
  ⟨h.cell 0, h.cell 1, h.frozen 0, h.frozen 1, h.lt⟩
theorem Blk.three {a b c : Value} (h : Blk w g t #[a, b, c]) : w.cell? ⟨g, 0, none⟩ = some a ∧ w.cell? ⟨g, 1, none⟩ = some b ∧ w.cell? ⟨g, 2, none⟩ = some c ∧ w.frozen? ⟨g, 0, none⟩ = false ∧ w.frozen? ⟨g, 1, none⟩ = false ∧ w.frozen? ⟨g, 2, none⟩ = false ∧ g < w.heap.size :=
  ⟨h.cell 0, h.cell 1, h.cell 2, h.frozen 0, h.frozen 1, h.frozen 2, h.lt⟩
theorem Blk.four {a b c d : Value} (h : Blk w g t #[a, b, c, d]) : w.cell? ⟨g, 0, none⟩ = some a ∧ w.cell? ⟨g, 1, none⟩ = some b ∧ w.cell? ⟨g, 2, none⟩ = some c ∧ w.cell? ⟨g, 3, none⟩ = some d ∧ w.frozen? ⟨g, 0, none⟩ = false ∧ w.frozen? ⟨g, 1, none⟩ = false ∧ w.frozen? ⟨g, 2, none⟩ = false ∧ w.frozen? ⟨g, 3, none⟩ = false ∧ g < w.heap.size :=
  ⟨h.cell 0, h.cell 1, h.cell 2, h.cell 3, h.frozen 0, h.frozen 1, h.frozen 2, h.frozen 3, h.lt⟩
end

/-- a block of the call's own -/
def bk (g : Nat) (t : TypeId) (cs : Array Value) : Res where
  blk := some g
  ok w := Blk w g t cs
  loc _ _ h hb := (hb g rfl).trans h
  lt _ h b hb := by injection hb with hb; subst hb; exact Blk.lt h
/-- a row that is appended to -/
def row (e size : Nat) (v : Value) (n : Nat) (xs : List Value) : Res where
  blk := v.ownBlock
  ok w := w.ownsRow 0 e size v n xs
  loc w w' h hb := by
    refine ⟨h.1, ?_⟩
    rcases h.2 with hn | ⟨g, cap, cur, rfl, hg, hgg, rest⟩
    · exact .inl hn
    · exact .inr ⟨g, cap, cur, rfl, hg, (hb g rfl).trans hgg, rest⟩
  lt w h b hb := (h.lt b hb).2

theorem add_at (g o j : Nat) : (⟨g, o, none⟩ : Addr).add j = ⟨g, o + j, none⟩ := by unfold Addr.add; split <;> simp_all
theorem own_form {w : World} {base e size n : Nat} {v : Value} {xs : List Value} (h : w.ownsRow base e size v n xs) : ∃ A cap, v = .slice A n cap := by
  rcases h.2 with ⟨rfl, rfl⟩ | ⟨g, cap, cur, rfl, _⟩
  · exact ⟨none, 0, rfl⟩
  · exact ⟨_, cap, rfl⟩
theorem own_cap {w : World} {base e size n n' c : Nat} {A : Option Addr} {xs : List Value} (h : w.ownsRow base e size (.slice A n' c) n xs) : n' = n ∧ n ≤ c := by
  rcases h.2 with ⟨h, hn⟩ | ⟨g, cap, cur, h, _, _, hc, _⟩
  · injection h with _ h1 h2; omega
  · injection h with _ h1 h2; omega
theorem own_mono {w : World} {base base' e size n : Nat} {v : Value} {xs : List Value} (h : w.ownsRow base e size v n xs) (hb : base' ≤ base) : w.ownsRow base' e size v n xs := by
  refine ⟨h.1, ?_⟩
  rcases h.2 with h2 | ⟨g, cap, cur, hv, hg, r⟩
  · exact .inl h2
  · exact .inr ⟨g, cap, cur, hv, by omega, r⟩

section
variable {I J : Img} {M : List Res} {w w' : World} {r s a b c d x : Res}
theorem St.head (h : St I (r :: M) w) : r.ok w := h.res r (by simp)
theorem St.at (h : St I M w) (k : Nat) (hk : M[k]? = some r) : r.ok w := h.res r (List.mem_of_getElem? hk)
theorem St.drop (h : St I (r :: M) w) : St I M w :=
  ⟨h.os, h.tape, h.output, h.img, fun s hs => h.res s (List.mem_cons_of_mem _ hs), h.apart.of_cons, fun s hs => h.away s (List.mem_cons_of_mem _ hs)⟩
theorem St.perm {N : List Res} (h : St I M w) (p : M.Perm N) : St I N w :=
  ⟨h.os, h.tape, h.output, h.img, fun r hr => h.res r (p.symm.subset hr), p.pairwise h.apart (fun h => h.symm), fun r hr => h.away r (p.symm.subset hr)⟩
/-- the first and another one change places -/
theorem St.swap1 (h : St I (a :: b :: M) w) : St I (b :: a :: M) w := h.perm (.swap _ _ _)
theorem St.swap2 (h : St I (a :: b :: c :: M) w) : St I (c :: b :: a :: M) w := h.perm ((((List.Perm.swap b a (c :: M)).trans ((List.Perm.swap c a M).cons b)).trans (List.Perm.swap c b (a :: M))))
theorem St.swap3 (h : St I (a :: b :: c :: d :: M) w) : St I (d :: b :: c :: a :: M) w := by
  have h1 : (a :: b :: c :: d :: M).Perm (b :: c :: a :: d :: M) := ((List.Perm.swap b a (c :: d :: M)).trans ((List.Perm.swap c a (d :: M)).cons b))
  have h2 : (b :: c :: a :: d :: M).Perm (b :: c :: d :: a :: M) := ((List.Perm.swap d a M).cons c).cons b
  have h3 : (b :: c :: d :: a :: M).Perm (d :: b :: c :: a :: M) := ((List.Perm.swap d c (a :: M)).cons b).trans (List.Perm.swap d b (c :: a :: M))
  exact h.perm ((h1.trans h2).trans h3)
theorem St.swap4 (h : St I (a :: b :: c :: d :: x :: M) w) : St I (x :: b :: c :: d :: a :: M) w := by
  have h1 : (a :: b :: c :: d :: x :: M).Perm (x :: b :: c :: d :: a :: M) := by
    have e1 : (a :: b :: c :: d :: x :: M) = [a] ++ ([b, c, d] ++ [x]) ++ M := rfl
    have e2 : (x :: b :: c :: d :: a :: M) = [x] ++ ([b, c, d] ++ [a]) ++ M := rfl
    rw [e1, e2]
    refine List.Perm.append_right M ?_
    refine (List.perm_append_comm (l₁ := [a]) (l₂ := [b, c, d] ++ [x])).trans ?_
    rw [List.append_assoc]
    refine (List.perm_append_comm (l₁ := [b, c, d]) (l₂ := [x] ++ [a])).trans ?_
    rw [List.append_assoc]
    exact List.Perm.append_left [x] List.perm_append_comm
  exact h.perm h1
/-- a world that is unlike the old one in blocks that are not known alone -/
theorem St.same (h : St I M w) (ho : w'.os = w.os) (ht : w'.tape = w.tape) (hu : w'.output = w.output) (hb : ∀ k : Nat, (∃ o : Obj, w.heap[k]? = some o) → w'.heap[k]? = w.heap[k]?) : St I M w' :=
  ⟨ho.trans h.os, ht.trans h.tape, hu.trans h.output, fun k o hk => (hb k ⟨o, h.img k o hk⟩).trans (h.img k o hk),
    fun r hr => r.loc w w' (h.res r hr) (fun b hb' => hb b (by have := r.lt w (h.res r hr) b hb'; exact ⟨_, Array.getElem?_eq_getElem this⟩)), h.apart, h.away⟩
theorem St.drew (h : St I M w) : St I M w.drew := h.same rfl rfl rfl (fun _ _ => rfl)
theorem St.drewN (h : St I M w) (n : Nat) : St I M (w.drewN n) := h.same rfl rfl rfl (fun _ _ => rfl)
theorem St.grow (h : St I M w) (o : Obj) : St I M (w.alloc o) := h.same rfl rfl rfl (fun k hk => by
  obtain ⟨_, hk⟩ := hk
  exact Below.heap_alloc w o k (Array.getElem?_eq_some_iff.1 hk).1)
/-- one thing more, whose block was not there -/
theorem St.more (h : St I M w') (hr : r.ok w') (hnew : ∀ b, r.blk = some b → w.heap[b]? = none) (h0 : St I M w) : St I (r :: M) w' := by
  refine ⟨h.os, h.tape, h.output, h.img, ?_, ?_, ?_⟩
  · intro s hs
    rcases List.mem_cons.1 hs with rfl | hs
    · exact hr
    · exact h.res s hs
  · refine List.pairwise_cons.2 ⟨fun s hs b hb hsb => ?_, h.apart⟩
    have := s.lt w (h0.res s hs) b hsb
    have hn := hnew b hb
    rw [Array.getElem?_eq_getElem this] at hn
    cases hn
  · intro s hs b hb
    rcases List.mem_cons.1 hs with rfl | hs
    · cases ho : I.obj b with
      | none => rfl
      | some o => have := h0.img b o ho; rw [hnew b hb] at this; cases this
    · exact h.away s hs b hb
theorem St.alloc (h : St I M w) (t : TypeId) (cs : Array Value) : St I (bk w.heap.size t cs :: M) (w.alloc (.cells cs t)) :=
  St.more (w := w) (h.grow _) (heap_alloc_new w _) (fun b hb => by injection hb with hb; subst hb; simp) h
/-- the first thing is turned, and nothing else -/
theorem St.turn {r' : Res} (h : St I (r :: M) w) (ho : w'.os = w.os) (ht : w'.tape = w.tape) (hu : w'.output = w.output)
    (hb : ∀ k, k < w.heap.size → some k ≠ r.blk → w'.heap[k]? = w.heap[k]?) (hr : r'.ok w') (hat : ∀ b, r'.blk = some b → r.blk = some b ∨ w.heap.size ≤ b) : St I (r' :: M) w' := by
  have hne : ∀ s ∈ M, ∀ b, s.blk = some b → w'.heap[b]? = w.heap[b]? := fun s hs b hsb => by
    refine hb b (s.lt w (h.res s (List.mem_cons_of_mem _ hs)) b hsb) (fun e => ?_)
    exact (List.pairwise_cons.1 h.apart).1 s hs b e.symm hsb
  refine ⟨ho.trans h.os, ht.trans h.tape, hu.trans h.output, fun k o hk => ?_, ?_, ?_, ?_⟩
  · have h1 := h.img k o hk
    refine (hb k (Array.getElem?_eq_some_iff.1 h1).1 (fun e => ?_)).trans h1
    have := h.away r (by simp) k e.symm
    rw [hk] at this; cases this
  · intro s hs
    rcases List.mem_cons.1 hs with rfl | hs
    · exact hr
    · exact s.loc w w' (h.res s (List.mem_cons_of_mem _ hs)) (hne s hs)
  · refine List.pairwise_cons.2 ⟨fun s hs b hb' hsb => ?_, h.apart.of_cons⟩
    rcases hat b hb' with h1 | h1
    · exact (List.pairwise_cons.1 h.apart).1 s hs b h1 hsb
    · have := s.lt w (h.res s (List.mem_cons_of_mem _ hs)) b hsb
      omega
  · intro s hs b hb'
    rcases List.mem_cons.1 hs with rfl | hs
    · rcases hat b hb' with h1 | h1
      · exact h.away r (by simp) b h1
      · cases ho : I.obj b with
        | none => rfl
        | some o =>
          have := (Array.getElem?_eq_some_iff.1 (h.img b o ho)).1
          omega
    · exact h.away s (List.mem_cons_of_mem _ hs) b hb'
theorem Blk.set {g : Nat} {t : TypeId} {cs : Array Value} (h : Blk w g t cs) (i : Nat) (u : Value) : Blk (w.setCell ⟨g, i, none⟩ u) g t (cs.setIfInBounds i u) := by
  unfold Blk at h ⊢
  simp [World.setCell, Array.getElem?_modify, h]
theorem St.set {g : Nat} {t : TypeId} {cs : Array Value} (h : St I (bk g t cs :: M) w) (i : Nat) (u : Value) : St I (bk g t (cs.setIfInBounds i u) :: M) (w.setCell ⟨g, i, none⟩ u) :=
  h.turn rfl rfl rfl (fun k _ hne => Below.heap_setCell _ _ _ _ (fun e => hne (by rw [e]; rfl))) (Blk.set h.head i u) (fun _ hb => .inl hb)
/-- behind an append -/
theorem St.grown {e size n n' : Nat} {v v' : Value} {xs xs' : List Value} (h : St I (row e size v n xs :: M) w) (hg : w.grownBy w' v.ownBlock) (ho : w'.ownsRow 0 e size v' n' xs') (hat : v'.ownBlock = v.ownBlock ∨ v'.ownBlock = some w.heap.size) :
    St I (row e size v' n' xs' :: M) w' :=
  h.turn hg.os hg.tape hg.output hg.block ho (fun b hb => by
    rcases hat with h1 | h1
    · exact .inl (h1.symm.trans hb)
    · refine .inr ?_
      have : v'.ownBlock = some b := hb
      rw [h1] at this; injection this with this; omega)
/-- something new of which it is known that it lies in no block that was there -/
theorem St.fresh {e size n : Nat} {v : Value} {xs : List Value} (h0 : St I M w) (h : St I M w') (ho : w'.ownsRow w.heap.size e size v n xs) : St I (row e size v n xs :: M) w' :=
  St.more (w := w) h (own_mono ho (Nat.zero_le _)) (fun b hb => by
    have := (ho.lt b hb).1
    simp; omega) h0
theorem St.below (h : St I M w) (hb : Below w.heap.size w w') : St I M w' :=
  h.same hb.os hb.tape hb.output (fun k hk => by obtain ⟨_, hk⟩ := hk; exact hb.block k (Array.getElem?_eq_some_iff.1 hk).1)
theorem St.nil {e size : Nat} (h : St I M w) : St I (row e size (.slice none 0 0) 0 [] :: M) w :=
  St.more (w := w) h (World.ownsRow_nil _ _ _ _) (fun b hb => by cases hb) h
end

/-- the image's own reading of a cell -/
def Img.cell? (I : Img) (a : Addr) : Option Value := match I.obj a.block with
  | some (.cells c _ _) => if a.spot.isSome then none else c[a.off]?
  | _ => none
theorem Img.le.cell {I J : Img} (h : I.le J) {a : Addr} {v : Value} (hc : I.cell? a = some v) : J.cell? a = some v := by
  unfold Img.cell? at *
  cases ho : I.obj a.block with
  | none => rw [ho] at hc; cases hc
  | some o => rw [h.obj _ _ ho]; rw [ho] at hc; exact hc
theorem St.cell {I : Img} {M : List Res} {w : World} (h : St I M w) {a : Addr} {v : Value} (hc : I.cell? a = some v) : w.cell? a = some v := by
  unfold Img.cell? at hc
  unfold World.cell?
  cases ho : I.obj a.block with
  | none => rw [ho] at hc; cases hc
  | some o => rw [h.img _ _ ho]; rw [ho] at hc; exact hc
/-- cells behind an address, in what stays as it is -/
def Cells (I : Img) (A : Option Addr) (cs : List Value) : Prop := 0 < cs.length → ∃ g o, A = some ⟨g, o, none⟩ ∧ ∀ j (h : j < cs.length), I.cell? ⟨g, o + j, none⟩ = some cs[j]
theorem Cells.mono {I J : Img} {A : Option Addr} {cs : List Value} (h : Cells I A cs) (hl : I.le J) : Cells J A cs := fun h0 => by
  obtain ⟨g, o, e, hc⟩ := h h0
  exact ⟨g, o, e, fun j hj => hl.cell (hc j hj)⟩
theorem Cells.nil (I : Img) (A : Option Addr) : Cells I A [] := fun h => absurd h (by simp)
theorem Cells.at {I : Img} {A : Option Addr} {cs : List Value} (h : Cells I A cs) (h0 : 0 < cs.length) : ∃ g o, A = some ⟨g, o, none⟩ ∧ ∀ (M : List Res) (w : World), St I M w → ∀ j (h : j < cs.length), w.cell? ⟨g, o + j, none⟩ = some cs[j] := by
  obtain ⟨g, o, e, hc⟩ := h h0
  exact ⟨g, o, e, fun M w hs j hj => hs.cell (hc j hj)⟩
theorem Cells.src {P : Program} {I : Img} {M : List Res} {w : World} {A : Option Addr} {cs : List Value} {t e : TypeId} {size n : Nat} (h : Cells I A cs) (hs : St I M w) (hl : cs.length = n * size) (h1 : 0 < size) (ht : P.underlying t = some (.slice e)) (c : Nat) (hone : ∀ u ∈ cs, u.oneCell' = true) :
    Src P size t (.slice A n c) n cs w := by
  match A with
  | none =>
    have h0 : cs = [] := by
      rcases cs with _ | ⟨b, r⟩
      · rfl
      · obtain ⟨_, _, e, _⟩ := h (by simp); cases e
    subst h0
    have : n = 0 := by simp at hl; rcases Nat.eq_zero_or_pos n with h | h; exact h; have := Nat.mul_pos h h1; omega
    subst this
    exact ⟨.inl ⟨e, ht⟩, fun _ => rfl, run_firstCells_none w size 0 0 c, run_firstCells_none w.drew size 0 0 c, by simp, fun _ h => by cases h⟩
  | some a =>
    refine Src.ofSlice w ht a n c cs hl (fun j u hj => ?_) hone
    have hl : j < cs.length := (List.getElem?_eq_some_iff.1 hj).1
    obtain ⟨g, o, e, hc⟩ := h (by omega)
    injection e with e
    subst e
    rw [add_at, hs.cell (hc j hl)]
    rw [List.getElem?_eq_getElem hl] at hj
    exact hj

/-- a thing of the call's own becomes a part of what stays as it is -/
def Img.with (I : Img) (w : World) (b : Nat) : Img := { I with obj := fun k => if k = b then w.heap[b]? else I.obj k }
theorem St.freeze {I : Img} {M : List Res} {w : World} {r : Res} {b : Nat} (h : St I (r :: M) w) (hb : r.blk = some b) : I.le (I.with w b) ∧ St (I.with w b) M w := by
  refine ⟨⟨rfl, rfl, rfl, fun k o hk => ?_⟩, ⟨h.os, h.tape, h.output, fun k o hk => ?_, h.drop.res, h.drop.apart, fun s hs b' hb' => ?_⟩⟩
  · show (if k = b then _ else _) = _
    by_cases e : k = b
    · subst e
      have := h.away r (by simp) k hb
      rw [hk] at this; cases this
    · rw [if_neg e]; exact hk
  · replace hk : (if k = b then w.heap[b]? else I.obj k) = some o := hk
    by_cases e : k = b
    · subst e
      rw [if_pos rfl] at hk; exact hk
    · rw [if_neg e] at hk; exact h.img k o hk
  · show (if b' = b then _ else _) = _
    rw [if_neg (fun e => ?_)]
    · exact h.drop.away s hs b' hb'
    · subst e
      exact (List.pairwise_cons.1 h.apart).1 s hs b' hb hb'
theorem Img.with_cell {I : Img} {w : World} {b o : Nat} : (I.with w b).cell? ⟨b, o, none⟩ = w.cell? ⟨b, o, none⟩ := by
  simp only [Img.cell?, Img.with, World.cell?, ↓reduceIte]
  cases w.heap[b]? with
  | none => rfl
  | some o => cases o <;> rfl
theorem St.freezeRow {I : Img} {M : List Res} {w : World} {e size n n' c : Nat} {A : Option Addr} {xs : List Value} (h : St I (row e size (.slice A n' c) n xs :: M) w) : ∃ J, I.le J ∧ St J M w ∧ Cells J A xs := by
  have ho : w.ownsRow 0 e size (.slice A n' c) n xs := h.head
  match A with
  | none =>
    refine ⟨I, .refl I, h.drop, ?_⟩
    rcases ho.2 with ⟨_, h0⟩ | ⟨g, cap, cur, hv, _⟩
    · have := ho.1
      rw [h0, Nat.zero_mul] at this
      rw [List.eq_nil_of_length_eq_zero this]
      exact Cells.nil _ _
    · injection hv with hv; cases hv
  | some a =>
    obtain ⟨h1, h2⟩ := h.freeze (b := a.block) rfl
    refine ⟨_, h1, h2, fun h0 => ?_⟩
    rcases ho.2 with ⟨hv, _⟩ | ⟨g, cap, cur, hv, _, hg, _⟩
    · injection hv with hv; cases hv
    · injection hv with hv _ _
      injection hv with hv
      subst hv
      refine ⟨g, 0, rfl, fun j hj => ?_⟩
      rw [Img.with_cell]
      have := ho.cells (g := g) rfl j _ (List.getElem?_eq_getElem hj)
      rwa [add_at] at this
theorem St.freezeBlk {I : Img} {M : List Res} {w : World} {g t : Nat} {cs : Array Value} (h : St I (bk g t cs :: M) w) : ∃ J, I.le J ∧ St J M w ∧ J.obj g = some (.cells cs t (0, 0)) := by
  obtain ⟨h1, h2⟩ := h.freeze (b := g) rfl
  refine ⟨_, h1, h2, ?_⟩
  show (if g = g then _ else _) = _
  rw [if_pos rfl]; exact h.head

/-- the beginning: all that is there stays as it is -/
def Img.of (w : World) : Img := ⟨w.os, w.tape, w.output, fun k => w.heap[k]?⟩
theorem St.of (w : World) : St (Img.of w) [] w := ⟨rfl, rfl, rfl, fun _ _ h => h, fun _ h => (by cases h), .nil, fun _ h => (by cases h)⟩
theorem Img.of_cell (w : World) (a : Addr) : (Img.of w).cell? a = w.cell? a := by
  simp only [Img.cell?, Img.of, World.cell?]
  cases w.heap[a.block]? with
  | none => rfl
  | some o => cases o <;> rfl
theorem St.end_ {I J : Img} {M : List Res} {w w' : World} (hI : I = Img.of w) (h : St J M w') (hl : I.le J) : Below w.heap.size w w' := by
  subst hI
  have hb : ∀ k, k < w.heap.size → w'.heap[k]? = w.heap[k]? := fun k hk => by
    have : (Img.of w).obj k = some w.heap[k] := Array.getElem?_eq_getElem hk
    rw [h.img k _ (hl.obj k _ this), Array.getElem?_eq_getElem hk]
  refine ⟨h.os.trans hl.os, h.tape.trans hl.tape, h.output.trans hl.output, ?_, hb⟩
  rcases Nat.eq_zero_or_pos w.heap.size with h0 | h0
  · omega
  · have h1 := (hb (w.heap.size - 1) (by omega)).trans (Array.getElem?_eq_getElem (by omega))
    have := (Array.getElem?_eq_some_iff.1 h1).1
    omega

/-- what a call leaves -/
def Ret (I : Img) (Q : Value → Img → List Res → Prop) (e : Ending) (w : World) : Prop := ∃ v J M, e = .returned v ∧ I.le J ∧ St J M w ∧ Q v J M
theorem Ret.mk {I J : Img} {M : List Res} {w : World} {v : Value} {Q : Value → Img → List Res → Prop} (hl : I.le J) (hs : St J M w) (hq : Q v J M) : Ret I Q (.returned v) w := ⟨v, J, M, rfl, hl, hs, hq⟩

section
variable {P : Program} (w : World)
/-- append onto a row of the call's own, whatever is appended: a slice that may be nil, a string -/
theorem run_append_src (base : Nat) (t tx ty e : TypeId) (i : TypeInfo) (z : Value) (size bytes : Nat) (ht : P.underlying t = some (.slice e)) (hi : P.info? e = some i) (hz : i.zero = some z)
    (hsize : i.size = size) (hby : i.bytes = bytes) (hzs : z.cells.size = size)
    (v : Value) (n : Nat) (xs : List Value) (hown : w.ownsRow base e size v n xs) (x : Value) (m : Nat) (news : List Value) (hs : Src P size tx x m news w)
    (h63 : n + m ≤ maxLen) (hbytes : (n + m) * bytes ≤ 140737488355328) (hbase : base ≤ w.heap.size) :
    ∃ v' w', (Builtin.append_ #[t, tx] ty #[v, x]).run P w = .ok v' w' ∧ w'.ownsRow base e size v' (n + m) (xs ++ news) ∧ w.grownBy w' v.ownBlock ∧
      (v'.ownBlock = v.ownBlock ∨ v'.ownBlock = some w.heap.size) := by
  subst hsize
  subst hby
  have hl := hs.newsLen
  have hlen : (xs ++ news).length = (n + m) * i.size := by rw [List.length_append, hown.1, hl, Nat.add_mul]
  have h63' : ((n + m : Nat) : Int) ≤ 9223372036854775807 := by simp only [maxLen] at h63; omega
  have grown : ∀ (old : Nat), ∀ (row : Option Nat),
      (w.drew.alloc (.cells ((xs ++ news).toArray ++ Builtin.zeroCells z.cells (grownCap w (n + m) old e - (n + m))) e)).ownsRow base e i.size
        (.slice (some ⟨w.heap.size, 0, none⟩) (n + m) (grownCap w (n + m) old e)) (n + m) (xs ++ news) ∧
      w.grownBy (w.drew.alloc (.cells ((xs ++ news).toArray ++ Builtin.zeroCells z.cells (grownCap w (n + m) old e - (n + m))) e)) row := by
    intro old row
    have hge := grownCap_ge w (n + m) old e
    have hcm : grownCap w (n + m) old e ≤ maxLen := grownCap_le_maxLen w (n + m) old e h63
    refine ⟨⟨hlen, .inr ⟨w.heap.size, _, _, rfl, hbase, heap_alloc_new w.drew _, hge, hcm, ?_, ?_⟩⟩, ⟨rfl, rfl, rfl, by simp, fun k hk _ => Below.heap_alloc w.drew _ k hk⟩⟩
    · simp only [Array.size_append, List.size_toArray, size_zeroCells, hzs, hlen, ← Nat.add_mul]
      congr 1
      omega
    · simp only [Array.toList_append]
      rw [← hlen]
      exact List.take_left
  rcases hown.2 with ⟨rfl, rfl⟩ | ⟨g, cap, cur, rfl, hbg, hg, hnc, hcm, hcs, htake⟩
  · have hx : xs = [] := List.eq_nil_of_length_eq_zero (by simpa using hown.1)
    subst hx
    by_cases hm : m = 0
    · subst hm
      have hn : news = [] := List.eq_nil_of_length_eq_zero (by simpa using hl)
      subst hn
      refine ⟨.slice none 0 0, w, ?_, World.ownsRow_nil w base e i.size, ⟨rfl, rfl, rfl, Nat.le_refl _, fun _ _ _ => rfl⟩, Or.inl rfl⟩
      rcases hs.kind with ⟨e', hk⟩ | hk <;> simp [Builtin.append_, run_underlying ht, run_underlying hk, sizeOf, typeInfo, hi, hs.len, hs.cells]
    · have hr := run_append_grow_src (P := P) w t tx ty e i z ht hi hz none 0 0 [] (run_firstCells_none w.drew i.size 0 0 0) x m news hs (by omega) (by simpa using h63') (growslice_fits (by omega) (by simpa using hbytes))
      have hgr := grown 0 (Value.ownBlock (.slice none 0 0))
      simp only [Nat.zero_add, List.nil_append] at hgr hr ⊢
      exact ⟨_, _, hr, hgr.1, hgr.2, Or.inr rfl⟩
  · by_cases hroom : n + m ≤ cap
    · have hfit : n * i.size + news.length ≤ cur.size := by rw [hl, hcs, ← Nat.add_mul]; exact Nat.mul_le_mul_right _ hroom
      have hst := run_storeCells_at P g (n * i.size) e news 0 cur w hg (by simpa using hfit) hs.one
      simp only [Nat.add_zero] at hst
      have hr : (Builtin.append_ #[t, tx] ty #[.slice (some ⟨g, 0, none⟩) n cap, x]).run P w =
          .ok (.slice (some ⟨g, 0, none⟩) (n + m) cap) (w.setRow g (cur.toList.take (n * i.size) ++ news ++ cur.toList.drop (n * i.size + news.length)).toArray) := by
        rcases hs.kind with ⟨e', hk⟩ | hk <;> simp [Builtin.append_, run_underlying ht, run_underlying hk, sizeOf, typeInfo, hi, hs.len, hroom, hs.cells, Addr.add_lit, hst]
      refine ⟨_, _, hr, ⟨hlen, .inr ⟨g, cap, _, rfl, hbg, setRow_heap w g cur _ e _ hg, hroom, hcm, ?_, ?_⟩⟩, ⟨rfl, rfl, rfl, by simp, fun k _ hk => setRow_other w g k _ (fun e => hk (by simp [Value.ownBlock, e]))⟩, Or.inl rfl⟩
      · simp only [List.size_toArray, List.length_append, List.length_take, List.length_drop, Array.length_toList]
        omega
      · rw [htake, ← hlen]
        exact List.take_left
    · have holds : ∀ j u, xs[j]? = some u → w.drew.cell? ((⟨g, 0, none⟩ : Addr).add j) = some u := hown.cells (g := g) rfl
      have hr := run_append_grow_src (P := P) w t tx ty e i z ht hi hz (some ⟨g, 0, none⟩) n cap xs (run_firstCells_some w.drew i.size n _ n cap xs hown.1 holds) x m news hs (by omega) h63' (growslice_fits (by omega) hbytes)
      have hgr := grown cap (Value.ownBlock (.slice (some ⟨g, 0, none⟩) n cap))
      exact ⟨_, _, hr, hgr.1, hgr.2, Or.inr rfl⟩

theorem wp_append_src {o : Oper} {a : Act} {K : Act → World → Prop} {Q : Exit → Act → World → Prop} (s y : Operand) (t tx : TypeId)
    (ho : o.op = .call { callee := .builtin .append, args := #[s, y], argTypes := #[t, tx] })
    (base e : Nat) (i : TypeInfo) (z : Value) (size bytes : Nat) (ht : P.underlying t = some (.slice e)) (hi : P.info? e = some i) (hz : i.zero = some z)
    (hsize : i.size = size) (hby : i.bytes = bytes) (hzs : z.cells.size = size)
    (v : Value) (n : Nat) (xs : List Value) (hv : a.eval s = v) (hown : w.ownsRow base e size v n xs) (x : Value) (m : Nat) (news : List Value) (hx : a.eval y = x) (hs : Src P size tx x m news w)
    (h63 : n + m ≤ maxLen) (hbytes : (n + m) * bytes ≤ 140737488355328) (hbase : base ≤ w.heap.size)
    (h : ∀ v' w', w'.ownsRow base e size v' (n + m) (xs ++ news) → w.grownBy w' v.ownBlock → (v'.ownBlock = v.ownBlock ∨ v'.ownBlock = some w.heap.size) → K (a.put o.dst v') w') : o.wp P a w K Q := by
  obtain ⟨v', w', hr, h2, h3, h4⟩ := run_append_src (P := P) w base t tx o.type e i z size bytes ht hi hz hsize hby hzs v n xs hown x m news hs h63 hbytes hbase
  unfold Oper.wp execOp
  simp only [ho, resolve, invoke, builtin, Sem.run_bind, Sem.run_pure, Result.andThen_ok, List.map_toArray, List.map_cons, List.map_nil, hv, hx, hr]
  exact h v' w' h2 h3 h4

/-- at a plain region's list: behind 'at_builtin' -/
theorem wpList_append_src {ops : Array Oper} {rest : List Oper} {o : Oper} {a : Act} {Q : Exit → Act → World → Prop} (hgd : o.guard = none) (s y : Operand) (t tx : TypeId)
    (ho : o.op = .call { callee := .builtin .append, args := #[s, y], argTypes := #[t, tx] })
    (base e : Nat) (i : TypeInfo) (z : Value) (size bytes : Nat) (ht : P.underlying t = some (.slice e)) (hi : P.info? e = some i) (hz : i.zero = some z)
    (hsize : i.size = size) (hby : i.bytes = bytes) (hzs : z.cells.size = size)
    (v : Value) (n : Nat) (xs : List Value) (hv : a.eval s = v) (hown : w.ownsRow base e size v n xs) (x : Value) (m : Nat) (news : List Value) (hx : a.eval y = x) (hs : Src P size tx x m news w)
    (h63 : n + m ≤ maxLen) (hbytes : (n + m) * bytes ≤ 140737488355328) (hbase : base ≤ w.heap.size)
    (h : ∀ v' w', w'.ownsRow base e size v' (n + m) (xs ++ news) → w.grownBy w' v.ownBlock → (v'.ownBlock = v.ownBlock ∨ v'.ownBlock = some w.heap.size) → wpList P ops Q rest (a.put o.dst v') w') : wpList P ops Q (o :: rest) a w :=
  wpList_plain hgd fun _ hK => wp_append_src w s y t tx ho base e i z size bytes ht hi hz hsize hby hzs v n xs hv hown x m news hx hs h63 hbytes hbase fun v' w' h2 h3 h4 => hK _ _ (h v' w' h2 h3 h4)

/-- at a step of a region that draws: for 'go_region_law', 'go_region_held3' -/
theorem step_append_src {ops : Array Oper} {o : Oper} {a : Act} {K : Act → World → Prop} {Q : Exit → Act → World → Prop} {E : Prop} (hgd : o.guard = none) (s y : Operand) (t tx : TypeId)
    (ho : o.op = .call { callee := .builtin .append, args := #[s, y], argTypes := #[t, tx] })
    (base e : Nat) (i : TypeInfo) (z : Value) (size bytes : Nat) (ht : P.underlying t = some (.slice e)) (hi : P.info? e = some i) (hz : i.zero = some z)
    (hsize : i.size = size) (hby : i.bytes = bytes) (hzs : z.cells.size = size)
    (v : Value) (n : Nat) (xs : List Value) (hv : a.eval s = v) (hown : w.ownsRow base e size v n xs) (x : Value) (m : Nat) (news : List Value) (hx : a.eval y = x) (hs : Src P size tx x m news w)
    (h63 : n + m ≤ maxLen) (hbytes : (n + m) * bytes ≤ 140737488355328) (hbase : base ≤ w.heap.size)
    (h : ∀ v' w', w'.ownsRow base e size v' (n + m) (xs ++ news) → w.grownBy w' v.ownBlock → (v'.ownBlock = v.ownBlock ∨ v'.ownBlock = some w.heap.size) → K (a.put o.dst v') w') :
    if Region.wanted o (yielded ops a.tmps) = true then Oper.wp P o a w K Q else E := by
  have hw : Region.wanted o (yielded ops a.tmps) = true := by simp [Region.wanted, hgd]
  rw [if_pos hw]
  exact wp_append_src w s y t tx ho base e i z size bytes ht hi hz hsize hby hzs v n xs hv hown x m news hx hs h63 hbytes hbase h
end
/-! bytes -/
def bv (c : UInt8) : Value := .int .u8 c.toNat
def bvs (l : List UInt8) : List Value := l.map bv
theorem bvs_append (a b : List UInt8) : bvs (a ++ b) = bvs a ++ bvs b := List.map_append ..
theorem bvs_len (a : List UInt8) : (bvs a).length = a.length := List.length_map ..
theorem bvs_one (a : List UInt8) : ∀ u ∈ bvs a, u.oneCell' = true := by
  intro u hu
  obtain ⟨c, _, rfl⟩ := List.mem_map.1 hu
  rfl
def byteOf (n : Int) : UInt8 := UInt8.ofNat n.toNat
theorem bv_byteOf {n : Int} (h0 : 0 ≤ n) (h1 : n < 256) : bv (byteOf n) = .int .u8 n := by
  unfold bv byteOf
  congr 1
  have : n.toNat < 256 := by omega
  rw [UInt8.toNat_ofNat', Nat.mod_eq_of_lt (by simpa using this)]
  omega
def Byts (I : Img) (A : Option Addr) (bs : List UInt8) : Prop := Cells I A (bvs bs)
section
variable {I J : Img} {M : List Res} {w : World} {A : Option Addr} {bs : List UInt8}
theorem Byts.mono (h : Byts I A bs) (hl : I.le J) : Byts J A bs := Cells.mono h hl
theorem Byts.nil (I : Img) (A : Option Addr) : Byts I A [] := Cells.nil I A
theorem Byts.at (h : Byts I A bs) (h0 : 0 < bs.length) : ∃ g o, A = some ⟨g, o, none⟩ ∧ ∀ (M : List Res) (w : World), St I M w → ∀ j (h : j < bs.length), w.cell? ⟨g, o + j, none⟩ = some (.int .u8 bs[j].toNat) := by
  obtain ⟨g, o, e, hc⟩ := Cells.at h (by rw [bvs_len]; exact h0)
  refine ⟨g, o, e, fun M w hs j hj => ?_⟩
  rw [hc M w hs j (by rw [bvs_len]; exact hj)]
  simp [bvs, bv]
theorem Byts.src {P : Program} {t e : TypeId} (h : Byts I A bs) (hs : St I M w) (ht : P.underlying t = some (.slice e)) (c : Nat) : Src P 1 t (.slice A bs.length c) bs.length (bvs bs) w :=
  Cells.src h hs (by rw [bvs_len, Nat.mul_one]) (by omega) ht c (bvs_one bs)
theorem Byts.take (h : Byts I A bs) (n : Nat) : Byts I A (bs.take n) := by
  intro h0
  rw [bvs_len, List.length_take] at h0
  obtain ⟨g, o, e, hc⟩ := h (by rw [bvs_len]; omega)
  refine ⟨g, o, e, fun j hj => ?_⟩
  rw [bvs_len, List.length_take] at hj
  rw [hc j (by rw [bvs_len]; omega)]
  simp [bvs]
theorem Byts.drop (h : Byts I A bs) {n c : Nat} (hc : bs.length ≤ c) : Byts I (if c = n then A else A.map (·.add n)) (bs.drop n) := by
  intro h0
  rw [bvs_len, List.length_drop] at h0
  obtain ⟨g, o, rfl, hcell⟩ := h (by rw [bvs_len]; omega)
  rw [if_neg (by omega)]
  refine ⟨g, o + n, by simp [add_at], fun j hj => ?_⟩
  rw [bvs_len, List.length_drop] at hj
  rw [Nat.add_assoc, hcell (n + j) (by rw [bvs_len]; omega)]
  simp [bvs]
/-- bytes as a string -/
theorem Byts.conv {P : Program} {t e s : TypeId} (h : Byts I A bs) (hs : St I M w) (ht : P.underlying t = some (.slice e)) (he : P.underlying e = some (.int .u8)) (hst : P.underlying s = some .string) (c : Nat) : (convert t s (.slice A bs.length c)).run P w = .ok (.string ⟨bs.toArray⟩) w := by
  match A with
  | none =>
    have h0 : bs = [] := by
      rcases bs with _ | ⟨b, r⟩
      · rfl
      · obtain ⟨_, _, e, _⟩ := h (by simp [bvs]); cases e
    subst h0
    exact run_convert_bytes_nil w t e ht he 0 c s hst
  | some a =>
    refine run_convert_bytes_back w t s e a c bs ht he hst (fun j hj => ?_)
    obtain ⟨g, o, e, hc⟩ := Byts.at h (by omega)
    injection e with e
    subst e
    rw [add_at]
    exact hc M w hs j hj
end
theorem Byts.at0 {I : Img} {A : Option Addr} {c : UInt8} {bs : List UInt8} (h : Byts I A (c :: bs)) : ∃ g o, A = some ⟨g, o, none⟩ ∧ (∀ (M : List Res) (w : World), St I M w → w.cell? ⟨g, o, none⟩ = some (.int .u8 c.toNat)) ∧ Byts I (some ⟨g, o + 1, none⟩) bs := by
  obtain ⟨g, o, e, hc⟩ := h (by simp [bvs])
  refine ⟨g, o, e, fun M w hs => hs.cell (hc 0 (by simp [bvs])), fun h0 => ⟨g, o + 1, rfl, fun j hj => ?_⟩⟩
  have := hc (j + 1) (by simp [bvs] at hj ⊢; omega)
  rw [Nat.add_assoc, Nat.add_comm 1 j, this]
  rfl
/-- a row of bytes that is owned: where it lies -/
theorem St.rowAt {I : Img} {M : List Res} {w : World} {e n n' c : Nat} {A : Option Addr} {l : List UInt8} (h : St I (row e 1 (.slice A n' c) n (bvs l) :: M) w) (h0 : 0 < l.length) :
    ∃ g, A = some ⟨g, 0, none⟩ ∧ n' = n ∧ g < w.heap.size ∧ (∀ k, k < l.length → w.cell? ⟨g, k, none⟩ = some (.int .u8 (l.getD k 0).toNat)) ∧ (∀ k, w.frozen? ⟨g, k, none⟩ = false) := by
  have ho : w.ownsRow 0 e 1 (.slice A n' c) n (bvs l) := h.head
  rcases ho.2 with ⟨hv, hn⟩ | ⟨g, cap, cur, hv, _, hg, _⟩
  · have := ho.1; rw [hn, bvs_len] at this; omega
  · have hv' := hv
    injection hv with hA hn _
    subst hA hn
    refine ⟨g, rfl, rfl, (Array.getElem?_eq_some_iff.1 hg).1, fun k hk => ?_, fun k => frozen_of_row w g k cur e hg⟩
    have := ho.cells (g := g) rfl k (bv l[k]) (by simp [bvs, hk])
    rw [add_at, Nat.zero_add] at this
    rw [this]
    simp [bv, hk]
theorem St.rowSet {I : Img} {M : List Res} {w : World} {e n c g : Nat} {l : List UInt8} (h : St I (row e 1 (.slice (some ⟨g, 0, none⟩) n c) n (bvs l) :: M) w) (k : Nat) (x : UInt8) :
    St I (row e 1 (.slice (some ⟨g, 0, none⟩) n c) n (bvs (l.set k x)) :: M) (w.setCell ⟨g, k, none⟩ (.int .u8 x.toNat)) := by
  have ho : w.ownsRow 0 e 1 (.slice (some ⟨g, 0, none⟩) n c) n (bvs l) := h.head
  have hs := ho.stored k (bv x)
  have e1 : bvs (l.set k x) = (bvs l).set k (bv x) := by simp [bvs, List.map_set]
  rw [e1]
  exact St.grown h hs.2 hs.1 (.inl rfl)
/-- an empty slice of the call's own, and bytes behind it -/
theorem St.lit0 {I : Img} {M : List Res} {w : World} {e : TypeId} (_h : St I M w) : (w.alloc (.cells #[] e)).ownsRow w.heap.size e 1 (.slice (some ⟨w.heap.size, 0, none⟩) 0 0) 0 [] :=
  World.ownsRow_lit (base := w.heap.size) (e := e) (size := 1) w #[] 0 (Nat.le_refl _) (Nat.zero_le _) rfl
/-- in the midst of a region that draws: another condition is held from here on -/
theorem anyH_true {P : Program} {md : Region.Mode} {ops : Array Oper} {Q : Exit → Act → World → Prop} : ∀ (fuel : Nat) (listed : Array Bool) (a : Act) (w : World), wpAny P md ops Q fuel listed a w → wpAnyH P md ops Q (fun _ => True) fuel listed a w
  | 0, _, _, _, h => h
  | fuel + 1, _, _, _, h => ⟨h.1, fun i hi => wpOp_mono (fun a' w' h' => ⟨trivial, anyH_true fuel _ a' w' h'⟩) (h.2 i hi)⟩
theorem reS {P : Program} {md : Region.Mode} {ops : Array Oper} {Q : Exit → Act → World → Prop} {S : World → Prop} {fuel : Nat} {listed : Array Bool} {a : Act} {w : World} (h : wpAnyH P md ops Q S fuel listed a w) : wpAnyH P md ops Q (fun _ => True) fuel listed a w :=
  anyH_true _ _ _ _ (wpAny_of_held _ _ _ _ h)
theorem Byts.ofBlk {I : Img} {g t : Nat} {cs : Array Value} {l : List UInt8} (h : I.obj g = some (.cells cs t (0, 0))) (hl : cs.toList = bvs l) : Byts I (some ⟨g, 0, none⟩) l := by
  intro _
  refine ⟨g, 0, rfl, fun j hj => ?_⟩
  simp only [Img.cell?, h, Nat.zero_add]
  have : cs[j]? = cs.toList[j]? := by simp
  rw [this, hl]
  simp [List.getElem?_eq_getElem hj]
end Go.Proofs.Ytddopbbmgpnjjaa
