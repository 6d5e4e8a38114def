import Derived.Test.YtpfacfolocjidaaWr
import Derived.Test.YtpfacfolocjidaaOwn
namespace Go.Proofs.Ytpfacfolocjidaa
open Go.RowKit

/-- bytes that are read behind a slice's address -/
def Byts (w : World) (A : Option Addr) (bs : List UInt8) : Prop :=
  0 < bs.length → ∃ g o, A = some ⟨g, o, none⟩ ∧ g < w.heap.size ∧ ∀ j (h : j < bs.length), w.cell? ⟨g, o + j, none⟩ = some (.int .u8 bs[j].toNat)
theorem add_at (g o j : Nat) : (⟨g, o, none⟩ : Addr).add j = ⟨g, o + j, none⟩ := by unfold Addr.add; split <;> simp_all
theorem Byts.nil (w : World) (A : Option Addr) : Byts w A [] := fun h => absurd h (by simp)
theorem Byts.below {w w' : World} {A : Option Addr} {bs : List UInt8} {B : Nat} (h : Byts w A bs) (hb : Below B w w') (hB : w.heap.size ≤ B) : Byts w' A bs := by
  intro h0
  obtain ⟨g, o, e, hg, hc⟩ := h h0
  refine ⟨g, o, e, by have := hb.size; omega, fun j hj => ?_⟩
  rw [hb.cell (p := ⟨g, o + j, none⟩) (by exact Nat.lt_of_lt_of_le hg hB)]
  exact hc j hj
theorem Byts.src {P : Program} {w : World} {A : Option Addr} {bs : List UInt8} {t : TypeId} (h : Byts w A bs) (ht : P.underlying t = some (.slice 5)) (c : Nat) : Src P 1 t (.slice A bs.length c) bs.length (bvs bs) w := by
  have hone := bvs_one bs
  match A with
  | none =>
    have : bs = [] := by
      rcases bs with _ | ⟨b, r⟩
      · rfl
      · obtain ⟨_, _, e, _⟩ := h (by simp); cases e
    subst this
    exact Src.ofNil w ht c
  | some a =>
    refine Src.ofSlice w ht a bs.length c (bvs bs) (by rw [bvs_len, Nat.mul_one]) (fun j u hj => ?_) hone
    have hl : j < bs.length := by
      have := (List.getElem?_eq_some_iff.1 hj).1
      rwa [bvs_len] at this
    obtain ⟨g, o, e, _, hc⟩ := h (by omega)
    injection e with e
    subst e
    rw [add_at, hc j hl]
    simp [bvs, List.getElem?_eq_getElem hl] at hj
    rw [← hj]; rfl
theorem Byts.of_own {w : World} {base n c : Nat} {A : Option Addr} {bs : List UInt8} (h : w.ownsRow base 5 1 (.slice A n c) n (bvs bs)) : Byts w A bs := by
  intro h0
  rcases h.2 with ⟨e, hn⟩ | ⟨g, cap, cur, hv, _, hg, _⟩
  · have := h.1; rw [bvs_len] at this; omega
  · injection hv with hA _ _
    subst hA
    refine ⟨g, 0, rfl, (Array.getElem?_eq_some_iff.1 hg).1, fun j hj => ?_⟩
    have := h.cells (g := g) rfl j (bv bs[j]) (by simp [bvs, hj])
    rw [add0] at this
    simpa [bv] using this

set_option maxHeartbeats 400000 in
theorem c25 (A : Option Addr) (c : Nat) (ns : List UInt8) (base p : Nat) (v : Value) (bs : List UInt8) (w : World) (hns : Byts w A ns) (hk : Vr 62 5 1 w base p v bs.length (bvs bs)) (hl : bs.length + ns.length ≤ 1000000000) :
    Calls Try.prog 25 #[.pointer (some ⟨p, 0, none⟩), .slice A ns.length c] w (WrPost 62 base p (bs ++ ns) w) := by
  obtain ⟨i0, hi, hz0, hz1, hz2⟩ := info_parts info5
  have hc := hk.cell
  have hf := hk.frozen
  have hown := hk.own
  have hlt := hk.lt
  have hlo := hk.lo
  have hsrc := hns.src (P := Try.prog) (t := 27) Try.underlying27 c
  obtain ⟨A1, cap, rfl⟩ := own_form hown
  have Hs := Lib.hid hsrc
  clear hsrc hns
  go_enter Try.func25, Try.ntmps25
  go_wp2_with (at_builtin; refine wpList_append_src _ rfl _ _ 62 27 rfl base 5 i0 (.int .u8 0) 1 1 Try.underlying62 hi hz0 hz1 hz2 rfl _ _ _ rfl hown _ _ _ rfl Hs.out (by unfold maxLen; omega) (by omega) (by omega) ?_)
  intro v' w3 hown' hgrow hat
  have P := Lib.hid (WrPost.mk_ (news := ns) (by decide) hk (Below.refl _ _) hgrow hown' hat rfl rfl)
  have hc3 := hk.keeps_cell (by decide) (Below.refl _ _) hgrow
  have hf3 := hk.keeps_frozen (by decide) (Below.refl _ _) hgrow
  obtain ⟨A', cap', rfl⟩ := own_form hown'
  clear hown' hgrow hat
  go_wp2
  go_end0
  exact P.out

/-- the data of an OPEN -/
def openD (x : ByteArray) : List UInt8 := [3, 0, 0, 0, 0, 0, 0, 0, 0, UInt8.ofNat x.size, 0, 0] ++ x.data.toList

theorem bytesRow_cells (w : World) (s : ByteArray) (c : Nat) (fr : Nat × Nat) : Byts (w.alloc (.cells (bytesRow s c) 5 fr)) (some ⟨w.heap.size, 0, none⟩) s.data.toList := by
  intro _
  refine ⟨_, _, rfl, by simp, fun j hj => ?_⟩
  rw [World.cell?_alloc_mark]
  have : j < s.size := by simpa using hj
  rw [Nat.zero_add, bytesRow_get s c j this]
  rfl

def Blk (w : World) (g : Nat) (t : TypeId) (cs : Array Value) : Prop := w.heap[g]? = some (.cells cs t (0, 0))
section
variable {w w' : World} {g : Nat} {t : TypeId} {cs : Array Value}
theorem Blk.lt (h : Blk w g t cs) : g < w.heap.size := (Array.getElem?_eq_some_iff.1 h).1
theorem Blk.cell (h : Blk w g t cs) (i : Nat) : w.cell? ⟨g, i, none⟩ = cs[i]? := cell_of_row w g i cs t (0, 0) h
theorem Blk.frozen (h : Blk w g t cs) (i : Nat) : w.frozen? ⟨g, i, none⟩ = false := by
  unfold Blk at h
  simp [World.frozen?, h]
theorem Blk.new (w : World) (t : TypeId) (cs : Array Value) : Blk (w.alloc (.cells cs t)) w.heap.size t cs := heap_alloc_new w _
theorem Blk.below {B : Nat} (h : Blk w g t cs) (hb : Below B w w') (hg : g < B) : Blk w' g t cs := (hb.block g hg).trans h
theorem Blk.fr {b : Nat} {v : Value} (h : Blk w g t cs) (f : Fr w w' b v) (hb : g ≠ b) (hv : v.ownBlock ≠ some g) : Blk w' g t cs := (f.block g h.lt hb (fun e => hv e.symm)).trans h
theorem Blk.three {a b c : Value} (h : Blk w g t #[a, b, c]) : w.cell? ⟨g, 0, none⟩ = some a ∧ w.cell? ⟨g, 1, none⟩ = some b ∧ w.cell? ⟨g, 2, none⟩ = some c ∧ w.frozen? ⟨g, 0, none⟩ = false ∧ w.frozen? ⟨g, 1, none⟩ = false ∧ w.frozen? ⟨g, 2, none⟩ = false ∧ g < w.heap.size :=
  ⟨h.cell 0, h.cell 1, h.cell 2, h.frozen 0, h.frozen 1, h.frozen 2, h.lt⟩
end

def openEE (s : Int) (x : ByteArray) (cs : List Ch) : Int := if wordB x 1 32 = true then openE s x cs else 1
def BkOpen (T E base b : Nat) (v : Value) (cs : List Ch) (s : Int) (x : ByteArray) (w : World) (e : Ending) (w' : World) : Prop :=
  ∃ v' D, Bk T E w' base b v' (if openEE s x cs = 0 then cs ++ [(s, x)] else cs) ∧ Fr w w' b v ∧ (v'.ownBlock = v.ownBlock ∨ ∃ g, v'.ownBlock = some g ∧ w.heap.size ≤ g) ∧
    e = .returned (.tuple #[.agg #[.int .u16 (if openEE s x cs = 0 then s else 0), .int .u32 (if openEE s x cs = 0 then 50 else 0), D], .int .i64 (openEE s x cs)]) ∧
    w'.ownsRow w.heap.size 5 1 D (if openEE s x cs = 0 then openD x else []).length (bvs (if openEE s x cs = 0 then openD x else []))
theorem BkOpen.no {T E base b : Nat} {v : Value} {cs : List Ch} {s n : Int} {x : ByteArray} {w w' : World} {e : Ending} (hn : openEE s x cs = n) (h0 : n ≠ 0) (hk : Bk T E w base b v cs) (hb : Below w.heap.size w w')
    (he : e = .returned (.tuple #[.agg #[.int .u16 0, .int .u32 0, .slice none 0 0], .int .i64 n])) : BkOpen T E base b v cs s x w e w' := by
  have h1 : openEE s x cs ≠ 0 := by rw [hn]; exact h0
  refine ⟨v, .slice none 0 0, ?_, Fr.of_below hb b v, .inl rfl, ?_, ?_⟩
  · rw [if_neg h1]; exact hk.below hb (Nat.le_refl _)
  · rw [if_neg h1, if_neg h1, hn]; exact he
  · rw [if_neg h1]; exact World.ownsRow_nil _ _ _ _
theorem Bk.own_lt {T E base b : Nat} {v : Value} {cs : List Ch} {w : World} (hk : Bk T E w base b v cs) : v.ownBlock ≠ some w.heap.size := by
  intro h
  have := (hk.own.lt _ h).2
  omega

set_option maxHeartbeats 400000 in
theorem c10_bad (s : Int) (x : ByteArray) (base b : Nat) (v : Value) (cs : List Ch) (w : World) (hs : x.size ≤ maxLen) (hk : Bk 59 74 w base b v cs) (hw : wordB x 1 32 = false) :
    Calls Try.prog 10 #[.pointer (some ⟨b, 0, none⟩), .int .u16 s, .string x] w (BkOpen 59 74 base b v cs s x w) := by
  have HE := Lib.hid (show openEE s x cs = 1 by simp [openEE, hw])
  go_enter Try.func10, Try.ntmps10
  go_wp2_with fail
  refine (c21 _ _ _ _ hs).mono ?_
  rintro e w1 ⟨rfl, hb1⟩
  have hR := (Blk.new w 29 #[.int .u16 0, .int .u32 0, .slice none 0 0]).below hb1 (by simp)
  obtain ⟨a0, a1, a2, f0, f1, f2, hlt⟩ := hR.three
  have HB := Lib.hid (((Below.refl w.heap.size w).alloc (Nat.le_refl _) _).trans (hb1.mono (by simp)))
  clear hb1 hR
  go_wp2
  exact bodyPost_ret (v := .tuple #[.agg #[.int .u16 0, .int .u32 0, .slice none 0 0], .int .i64 1]) (by simp [results, Try.results10, go_sem, a0, a1, a2]) rfl (BkOpen.no HE.out (by decide) hk (((HB.out.setCell (Nat.le_refl _) _).setCell (Nat.le_refl _) _).setCell (Nat.le_refl _) _) rfl)

theorem Fr.setNew {w w1 : World} {b : Nat} {v : Value} (f : Fr w w1 b v) {p : Addr} (hp : w.heap.size ≤ p.block) (u : Value) : Fr w (w1.setCell p u) b v :=
  ⟨f.os, f.tape, f.output, by simpa [World.setCell] using f.size, fun k hk hb hv => (Below.heap_setCell _ _ _ _ (by omega)).trans (f.block k hk hb hv)⟩
theorem Bk.far {T E base b : Nat} {v : Value} {cs : List Ch} {w : World} (hk : Bk T E w base b v cs) {p : Addr} (hb : p.block ≠ b) (hv : v.ownBlock ≠ some p.block) (u : Value) : Bk T E (w.setCell p u) base b v cs :=
  ⟨(Below.heap_setCell _ _ _ _ (by omega)).trans hk.blk, hk.lo, hk.own.kept (row := some p.block) ⟨rfl, rfl, rfl, by simp [World.setCell], fun k _ hk => Below.heap_setCell _ _ _ _ (fun h => hk (by rw [h]))⟩ (.inr hv)⟩

theorem BkOpen.refused {T E base b : Nat} {v v' : Value} {cs : List Ch} {s n : Int} {x : ByteArray} {w w' : World} {e : Ending} (hn : openEE s x cs = n) (h0 : n ≠ 0) (hk : Bk T E w' base b v' cs) (f : Fr w w' b v) (hat : v'.ownBlock = v.ownBlock ∨ ∃ g, v'.ownBlock = some g ∧ w.heap.size ≤ g)
    (he : e = .returned (.tuple #[.agg #[.int .u16 0, .int .u32 0, .slice none 0 0], .int .i64 n])) : BkOpen T E base b v cs s x w e w' := by
  have h1 : openEE s x cs ≠ 0 := by rw [hn]; exact h0
  refine ⟨v', .slice none 0 0, ?_, f, hat, ?_, ?_⟩
  · rw [if_neg h1]; exact hk
  · rw [if_neg h1, if_neg h1, hn]; exact he
  · rw [if_neg h1]; exact World.ownsRow_nil _ _ _ _

set_option maxHeartbeats 400000 in
theorem c10_no (s : Int) (x : ByteArray) (base b : Nat) (v : Value) (cs : List Ch) (w : World) (hs : x.size ≤ maxLen) (hm : cs.length ≤ 8) (hk : Bk 59 74 w base b v cs) (hw : wordB x 1 32 = true) (hE : openE s x cs ≠ 0) :
    Calls Try.prog 10 #[.pointer (some ⟨b, 0, none⟩), .int .u16 s, .string x] w (BkOpen 59 74 base b v cs s x w) := by
  have HE := Lib.hid (show openEE s x cs = openE s x cs by simp [openEE, hw])
  have HE0 := Lib.hid hE
  have hEb : (openE s x cs == 0) = false := by simpa using hE
  have hlt := hk.lt
  have hne := hk.own_lt
  clear hE
  go_enter Try.func10, Try.ntmps10
  go_wp2_with fail
  refine (c21 _ _ _ _ hs).mono ?_
  rintro e w1 ⟨rfl, hb1⟩
  have hR := (Blk.new w 29 #[.int .u16 0, .int .u32 0, .slice none 0 0]).below hb1 (by simp)
  have HB := Lib.hid (((Below.refl w.heap.size w).alloc (Nat.le_refl _) _).trans (hb1.mono (by simp)))
  have hk1 := hk.below HB.out (Nat.le_refl _)
  clear hb1
  have hw' : wordB x 1 32 = true := hw
  go_wp2_with fail
  refine (c22 s x base b v cs _ hm hk1).mono ?_
  rintro e w2 ⟨rfl, v', hk2, f, hat⟩
  rw [openC, if_neg HE0.out] at hk2
  have hR2 := hR.fr f (by omega) hne
  obtain ⟨a0, a1, a2, f0, f1, f2, hlt2⟩ := hR2.three
  have hs1 := HB.out.size
  have hv' : v'.ownBlock ≠ some w.heap.size := by
    rcases hat with h | ⟨g, h, hg⟩
    · rw [h]; exact hne
    · have := hR.lt; rw [h]; simp; omega
  have P : ∀ e, e = .returned (.tuple #[.agg #[.int .u16 0, .int .u32 0, .slice none 0 0], .int .i64 (openE s x cs)]) → BkOpen 59 74 base b v cs s x w e (((w2.setCell ⟨w.heap.size, 0, none⟩ (.int .u16 0)).setCell ⟨w.heap.size, 1, none⟩ (.int .u32 0)).setCell ⟨w.heap.size, 2, none⟩ (.slice none 0 0)) := by
    intro e he
    refine BkOpen.refused HE.out HE0.out (((hk2.far ?_ hv' _).far ?_ hv' _).far ?_ hv' _) ((((Fr.after HB.out f).setNew (Nat.le_refl _) _).setNew (Nat.le_refl _) _).setNew (Nat.le_refl _) _) ?_ he
    · simp; omega
    · simp; omega
    · simp; omega
    · rcases hat with h | ⟨g, h, hg⟩
      · exact .inl h
      · exact .inr ⟨g, h, by omega⟩
  have HP := Lib.hid P
  clear P hk2 hR2 f hat hv' hR
  go_wp2
  exact bodyPost_ret (v := .tuple #[.agg #[.int .u16 0, .int .u32 0, .slice none 0 0], .int .i64 (openE s x cs)]) (by simp [results, Try.results10, go_sem, a0, a1, a2]) rfl (HP.out _ rfl)

theorem own_mono {w : World} {base base' e size n : Nat} {v : Value} {xs : List Value} (h : w.ownsRow base e size v n xs) (hb : base' ≤ base) : w.ownsRow base' e size v n xs := by
  refine ⟨h.1, ?_⟩
  rcases h.2 with h2 | ⟨g, cap, cur, hv, hg, r⟩
  · exact .inl h2
  · exact .inr ⟨g, cap, cur, hv, by omega, r⟩
theorem BkOpen.yes {T E base b n : Nat} {v v' v8 : Value} {cs : List Ch} {s : Int} {x : ByteArray} {w w1 w2 w8 : World} {r0 r1 r2 : Value} (hn : openEE s x cs = 0) (hb1 : Below w.heap.size w w1) (hlt : b < w.heap.size) (hk : Bk T E w2 base b v' (cs ++ [(s, x)])) (f : Fr w1 w2 b v)
    (hat : v'.ownBlock = v.ownBlock ∨ ∃ g, v'.ownBlock = some g ∧ w1.heap.size ≤ g) (hb8 : Below w2.heap.size w2 w8) (hBl : w.heap.size < w2.heap.size) (hown : w8.ownsRow w2.heap.size 5 1 v8 n (bvs (openD x))) (hnn : n = (openD x).length) (hvo : v.ownBlock ≠ some w.heap.size) (hw1 : w.heap.size < w1.heap.size) :
    ∀ e, e = .returned (.tuple #[.agg #[.int .u16 s, .int .u32 50, v8], .int .i64 0]) → BkOpen T E base b v cs s x w e (((w8.setCell ⟨w.heap.size, 0, none⟩ r0).setCell ⟨w.heap.size, 1, none⟩ r1).setCell ⟨w.heap.size, 2, none⟩ r2) := by
  intro e he
  subst hnn
  have hv' : v'.ownBlock ≠ some w.heap.size := by
    rcases hat with h | ⟨g, h, hg⟩
    · rw [h]; exact hvo
    · rw [h]; simp; omega
  have hk8 := hk.below hb8 (Nat.le_refl _)
  refine ⟨v', v8, ?_, (((((Fr.after hb1 f).then_ hb8).setNew (Nat.le_refl _) _).setNew (Nat.le_refl _) _).setNew (Nat.le_refl _) _), ?_, ?_, ?_⟩
  · rw [if_pos hn]
    refine ((hk8.far ?_ hv' _).far ?_ hv' _).far ?_ hv' _
    · simp; omega
    · simp; omega
    · simp; omega
  · rcases hat with h | ⟨g, h, hg⟩
    · exact .inl h
    · exact .inr ⟨g, h, by omega⟩
  · rw [if_pos hn, if_pos hn, hn]; exact he
  · rw [if_pos hn]
    exact own_mono (ownsRow_setCell_below (ownsRow_setCell_below (ownsRow_setCell_below hown (by exact hBl) _) (by exact hBl) _) (by exact hBl) _) (Nat.le_of_lt hBl)

set_option maxHeartbeats 1000000 in
theorem c10_yes (s : Int) (x : ByteArray) (base b : Nat) (v : Value) (cs : List Ch) (w : World) (hs : x.size ≤ maxLen) (hm : cs.length ≤ 8) (hk : Bk 59 74 w base b v cs) (hw : wordB x 1 32 = true) (hE : openE s x cs = 0) :
    Calls Try.prog 10 #[.pointer (some ⟨b, 0, none⟩), .int .u16 s, .string x] w (BkOpen 59 74 base b v cs s x w) := by
  have HE := Lib.hid (show openEE s x cs = 0 by simp [openEE, hw, hE])
  have HE0 := Lib.hid hE
  have hlt := hk.lt
  have hne := hk.own_lt
  have hx32 : (x.size : Int) ≤ 32 := by simp only [wordB, Bool.and_eq_true, decide_eq_true_eq] at hw; omega
  have hconv := fun w => run_bytes_of_string (P := Try.prog) w 9 27 5 x Try.underlying9 Try.underlying27 Try.underlying5
  go_enter Try.func10, Try.ntmps10
  go_wp2_with fail
  refine (c21 _ _ _ _ hs).mono ?_
  rintro e w1 ⟨rfl, hb1⟩
  have hR := (Blk.new w 29 #[.int .u16 0, .int .u32 0, .slice none 0 0]).below hb1 (by simp)
  have HB := Lib.hid (((Below.refl w.heap.size w).alloc (Nat.le_refl _) _).trans (hb1.mono (by simp)))
  have hk1 := hk.below HB.out (Nat.le_refl _)
  clear hb1
  have hw' : wordB x 1 32 = true := hw
  go_wp2_with fail
  refine (c22 s x base b v cs _ hm hk1).mono ?_
  rintro e w2 ⟨rfl, v', hk2, f, hat⟩
  rw [openC, if_pos HE0.out] at hk2
  have hR2 := hR.fr f (by omega) hne
  have hlt2 := hR2.lt
  have hV : Vr 62 5 1 (w2.alloc (.cells #[.slice none 0 0] 62)) w2.heap.size w2.heap.size (.slice none 0 0) ([] : List UInt8).length (bvs []) := ⟨heap_alloc_new _ _, Nat.le_refl _, World.ownsRow_nil _ _ _ _⟩
  have HK2 := Lib.hid hk2
  have HF := Lib.hid f
  have HAT := Lib.hid hat
  clear hk2 f hat hk1
  go_wp2_with fail
  refine (c23 50331648 _ _ _ _ _ (by omega) (by omega) hV (by simp)).mono ?_
  rintro e w3 ⟨rfl, v3, hV3, hb3⟩
  have hb3' := (Below.refl w2.heap.size w2).alloc (Nat.le_refl _) _ |>.trans hb3
  clear hb3 hV
  go_wp2_with fail
  refine (c23 0 _ _ _ _ _ (by omega) (by omega) hV3 (by simp)).mono ?_
  rintro e w4 ⟨rfl, v4, hV4, hb4⟩
  have hb4' := hb3'.trans hb4
  clear hb4 hb3' hV3
  go_wp2_with fail
  refine (c24 x.size _ _ _ _ _ (by omega) (by omega) hV4 (by simp)).mono ?_
  rintro e w5 ⟨rfl, v5, hV5, hb5⟩
  have hb5' := hb4'.trans hb5
  clear hb5 hb4' hV4
  go_wp2_with fail
  refine (c24 0 _ _ _ _ _ (by omega) (by omega) hV5 (by simp)).mono ?_
  rintro e w6 ⟨rfl, v6, hV6, hb6⟩
  have hb6' := hb5'.trans hb6
  clear hb6 hb5' hV5
  have hD : [] ++ [byteOf (50331648 / 16777216), byteOf (50331648 / 65536 % 256), byteOf (50331648 / 256 % 256), byteOf (50331648 % 256)] ++ [byteOf (0 / 16777216), byteOf (0 / 65536 % 256), byteOf (0 / 256 % 256), byteOf (0 % 256)] ++
      [byteOf (x.size / 256), byteOf (x.size % 256)] ++ [byteOf (0 / 256), byteOf (0 % 256)] = ([3, 0, 0, 0, 0, 0, 0, 0, 0, UInt8.ofNat x.size, 0, 0] : List UInt8) := by
    have h1 : (x.size : Int) / 256 = 0 := by omega
    have h2 : (x.size : Int) % 256 = x.size := by omega
    rw [h1, h2]
    rfl
  rw [hD] at hV6
  have hb7 := (Below.refl w6.heap.size w6).alloc (Nat.le_refl _) (.cells (bytesRow x (grownCap w6 x.size 0 5)) 5 ((bytesRow x (grownCap w6 x.size 0 5)).size, (bytesRow x (grownCap w6 x.size 0 5)).size + 1)) |>.drew
  have hB7 := bytesRow_cells w6 x (grownCap w6 x.size 0 5) ((bytesRow x (grownCap w6 x.size 0 5)).size, (bytesRow x (grownCap w6 x.size 0 5)).size + 1)
  have h25 := Lib.hid (c25 (some ⟨w6.heap.size, 0, none⟩) (grownCap w6 x.size 0 5) x.data.toList _ _ _ _ _ (hB7.below ((Below.refl _ _).drew) (Nat.le_refl _)) (hV6.below hb7 (Nat.le_refl _)) (by simp only [List.length_cons, List.length_nil]; rw [show x.data.toList.length = x.size from rfl]; omega))
  have hb7' := hb6'.trans (hb7.mono hb6'.size)
  clear hb7 hB7 hV6 hb6'
  go_wp2_with fail
  refine h25.out.mono ?_
  rintro e w8 ⟨rfl, v8, hV8, hb8⟩
  have hb8' := hb7'.trans hb8
  clear hb8 hb7' h25
  have hR8 := hR2.below hb8' hlt2
  obtain ⟨a0, a1, a2, f0, f1, f2, hlt8⟩ := hR8.three
  have hc8 := hV8.cell
  have P := BkOpen.yes (r0 := .int .u16 s) (r1 := .int .u32 50) (r2 := v8) HE.out HB.out hlt HK2.out HF.out HAT.out hb8' hlt2 hV8.own rfl hne hR.lt
  obtain ⟨A8, c8, rfl⟩ := own_form hV8.own
  have HP := Lib.hid P
  clear P hR8 hR2 hR hV8 hb8' hconv
  go_wp2
  exact bodyPost_ret (v := .tuple #[.agg #[.int .u16 s, .int .u32 50, .slice A8 _ c8], .int .i64 0]) (by simp [results, Try.results10, go_sem, a0, a1, a2]) rfl (HP.out _ rfl)
theorem c10 (s : Int) (x : ByteArray) (base b : Nat) (v : Value) (cs : List Ch) (w : World) (hs : x.size ≤ maxLen) (hm : cs.length ≤ 8) (hk : Bk 59 74 w base b v cs) :
    Calls Try.prog 10 #[.pointer (some ⟨b, 0, none⟩), .int .u16 s, .string x] w (BkOpen 59 74 base b v cs s x w) := by
  cases hw : wordB x 1 32 with
  | false => exact c10_bad s x base b v cs w hs hk hw
  | true =>
    by_cases hE : openE s x cs = 0
    · exact c10_yes s x base b v cs w hs hm hk hw hE
    · exact c10_no s x base b v cs w hs hm hk hw hE
end Go.Proofs.Ytpfacfolocjidaa
