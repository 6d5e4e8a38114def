import Derived.Test.YtpfacfolocjidaaWord2
namespace Go.Proofs.Ytpfacfolocjidaa
open Go.RowKit

theorem chv_snoc (cs : List Ch) (c : Ch) : chv (cs ++ [c]) = chv cs ++ [.int .u16 c.1, .string c.2] := by
  simp [chv, List.flatMap_append]
theorem cell_two_one (w : World) (x y : Value) (t : TypeId) : ∀ j u, [x, y][j]? = some u → (w.alloc (.cells #[x, y] t)).cell? ((⟨w.heap.size, 0, none⟩ : Addr).add j) = some u := by
  intro j u hj
  rw [add0, World.cell?_alloc_new]
  match j, hj with
  | 0, hj => simpa using hj
  | 1, hj => simpa using hj

theorem own_form {w : World} {base e size n : Nat} {v : Value} {xs : List Value} (h : w.ownsRow base e size v n xs) : ∃ A cap, v = .slice A n cap := by
  rcases h.2 with ⟨rfl, rfl⟩ | ⟨g, cap, cur, rfl, _⟩
  · exact ⟨none, 0, rfl⟩
  · exact ⟨_, cap, rfl⟩

/-- what an opening answers, and the channels behind it -/
def openE (s : Int) (x : ByteArray) (cs : List Ch) : Int := if (fnd x cs).isSome = true ∨ 0 ≤ idx s cs then 9 else if cs.length = 8 then 6 else 0
def openC (s : Int) (x : ByteArray) (cs : List Ch) : List Ch := if openE s x cs = 0 then cs ++ [(s, x)] else cs
theorem openC_len {s : Int} {x : ByteArray} {cs : List Ch} (h : cs.length ≤ 8) : (openC s x cs).length ≤ 8 := by
  unfold openC
  by_cases h0 : openE s x cs = 0
  · rw [if_pos h0]
    have : cs.length ≠ 8 := by
      intro h8
      unfold openE at h0
      by_cases h1 : (fnd x cs).isSome = true ∨ 0 ≤ idx s cs
      · rw [if_pos h1] at h0; cases h0
      · rw [if_neg h1, if_pos h8] at h0; cases h0
    simp; omega
  · rw [if_neg h0]; exact h

/-- nothing has turned but the book's block and its row -/
structure Fr (w w' : World) (b : Nat) (v : Value) : Prop where
  os : w'.os = w.os
  tape : w'.tape = w.tape
  output : w'.output = w.output
  size : w.heap.size ≤ w'.heap.size
  block : ∀ k, k < w.heap.size → k ≠ b → some k ≠ v.ownBlock → w'.heap[k]? = w.heap[k]?
section
variable {w w' w1 : World} {b B : Nat} {v : Value}
theorem Fr.of_below (h : Below w.heap.size w w') (b : Nat) (v : Value) : Fr w w' b v := ⟨h.os, h.tape, h.output, h.size, fun k hk _ _ => h.block k hk⟩
theorem Fr.after (h : Below w.heap.size w w1) (f : Fr w1 w' b v) : Fr w w' b v :=
  ⟨f.os.trans h.os, f.tape.trans h.tape, f.output.trans h.output, Nat.le_trans h.size f.size, fun k hk hb hv => (f.block k (Nat.lt_of_lt_of_le hk h.size) hb hv).trans (h.block k hk)⟩
theorem Fr.then_ (f : Fr w w1 b v) (h : Below w1.heap.size w1 w') : Fr w w' b v :=
  ⟨h.os.trans f.os, h.tape.trans f.tape, h.output.trans f.output, Nat.le_trans f.size h.size, fun k hk hb hv => (h.block k (Nat.lt_of_lt_of_le hk f.size)).trans (f.block k hk hb hv)⟩
theorem Fr.below (f : Fr w w' b v) (hb : B ≤ b) (hv : ∀ k, v.ownBlock = some k → B ≤ k) (hB : B ≤ w.heap.size) : Below B w w' :=
  ⟨f.os, f.tape, f.output, f.size, fun k hk => f.block k (by omega) (by omega) (fun e => by have := hv k e.symm; omega)⟩
end

def OpenPost (T E base b : Nat) (v : Value) (cs : List Ch) (s : Int) (x : ByteArray) (w : World) (e : Ending) (w' : World) : Prop :=
  e = .returned (.int .i64 (openE s x cs)) ∧ ∃ v', Bk T E w' base b v' (openC s x cs) ∧ Fr w w' b v ∧ (v'.ownBlock = v.ownBlock ∨ ∃ g, v'.ownBlock = some g ∧ w.heap.size ≤ g)
theorem OpenPost.same {T E base b : Nat} {v : Value} {cs : List Ch} {s : Int} {x : ByteArray} {w w' : World} {e : Ending} {n : Int} (hk : Bk T E w base b v cs) (hb : Below w.heap.size w w') (hn : openE s x cs = n) (h0 : n ≠ 0) (he : e = .returned (.int .i64 n)) :
    OpenPost T E base b v cs s x w e w' :=
  ⟨by rw [hn]; exact he, v, by rw [openC, if_neg (by rw [hn]; exact h0)]; exact hk.below hb (Nat.le_refl _), Fr.of_below hb b v, .inl rfl⟩
theorem OpenPost.keeps {T E base b : Nat} {v : Value} {cs : List Ch} {w w1 w2 : World} {A : Array Value} {t : TypeId} (hET : E ≠ T) (hk : Bk T E w base b v cs) (hb : Below w.heap.size w w1)
    (hg : (w1.alloc (.cells A t)).grownBy w2 v.ownBlock) : w2.heap[b]? = w1.heap[b]? := by
  have hlt := hk.lt
  have hs := hb.size
  have hown1 : w1.ownsRow base E 2 v cs.length (chv cs) := (hk.below hb (Nat.le_refl _)).own
  have hblk1 : w1.heap[b]? = some (.cells #[v] T (0, 0)) := (hk.below hb (Nat.le_refl _)).blk
  have hvb : v.ownBlock ≠ some b := by
    intro h
    rcases hown1.2 with ⟨rfl, _⟩ | ⟨g, cap, cur, rfl, _, hgg, _⟩
    · simp [Value.ownBlock] at h
    · simp only [Value.ownBlock, Option.some.injEq] at h
      subst h
      rw [hblk1] at hgg
      simp at hgg
      exact hET hgg.2.symm
  rw [hg.block b (by simp; omega) (fun h => hvb h.symm), Below.heap_alloc w1 _ b (by omega)]
theorem OpenPost.more {T E base b : Nat} {v v' : Value} {cs : List Ch} {s : Int} {x : ByteArray} {w w1 w2 : World} {e : Ending} {A : Array Value} {t : TypeId} (hET : E ≠ T) (hk : Bk T E w base b v cs) (hb : Below w.heap.size w w1) (h0 : openE s x cs = 0)
    (he : e = .returned (.int .i64 0)) (hown : w2.ownsRow base E 2 v' (cs.length + 1) (chv cs ++ [.int .u16 s, .string x])) (hg : (w1.alloc (.cells A t)).grownBy w2 v.ownBlock) (hat : v'.ownBlock = v.ownBlock ∨ v'.ownBlock = some (w1.alloc (.cells A t)).heap.size) :
    OpenPost T E base b v cs s x w e (w2.setCell ⟨b, 0, none⟩ v') := by
  have hlt := hk.lt
  have hs := hb.size
  have hown1 : w1.ownsRow base E 2 v cs.length (chv cs) := (hk.below hb (Nat.le_refl _)).own
  have hblk1 : w1.heap[b]? = some (.cells #[v] T (0, 0)) := (hk.below hb (Nat.le_refl _)).blk
  have hvb : v.ownBlock ≠ some b := by
    intro h
    rcases hown1.2 with ⟨rfl, _⟩ | ⟨g, cap, cur, rfl, _, hgg, _⟩
    · simp [Value.ownBlock] at h
    · simp only [Value.ownBlock, Option.some.injEq] at h
      subst h
      rw [hblk1] at hgg
      simp at hgg
      exact hET hgg.2.symm
  have hb2 : w2.heap[b]? = some (.cells #[v] T (0, 0)) := by
    rw [hg.block b (by simp; omega) (fun h => hvb h.symm), Below.heap_alloc w1 _ b (by omega)]
    exact hblk1
  have hv'b : v'.ownBlock ≠ some b := by
    rcases hat with h | h
    · rw [h]; exact hvb
    · rw [h]; simp; omega
  have hg2 := hg.size
  simp only [World.size_alloc] at hg2
  refine ⟨by rw [h0]; exact he, v', ⟨?_, hk.lo, ?_⟩, ⟨?_, ?_, ?_, ?_, ?_⟩, ?_⟩
  · simp [World.setCell, Array.getElem?_modify, hb2]
  · rw [openC, if_pos h0, chv_snoc, List.length_append]
    exact hown.kept (row := some b) ⟨rfl, rfl, rfl, by simp [World.setCell], fun k _ hk => Below.heap_setCell _ _ _ _ (fun h => hk (by rw [h]))⟩ (.inr hv'b)
  · exact hg.os.trans hb.os
  · exact hg.tape.trans hb.tape
  · exact hg.output.trans hb.output
  · simp [World.setCell]; omega
  · intro k hk hkb hkv
    rw [Below.heap_setCell _ _ _ _ hkb, hg.block k (by simp; omega) hkv, Below.heap_alloc _ _ _ (by omega)]
    exact hb.block k hk
  · rcases hat with h | h
    · exact .inl h
    · exact .inr ⟨_, h, by simp; omega⟩

theorem info74 : (Try.prog.info? 74).map (fun i => (i.zero, i.size, i.bytes)) = some (some (.agg #[.int .u16 0, .string ⟨#[]⟩]), 2, 24) := by kernel_rfl

set_option maxHeartbeats 1000000 in
theorem c22 (s : Int) (x : ByteArray) (base b : Nat) (v : Value) (cs : List Ch) (w : World) (hm : cs.length ≤ 8) (hk : Bk 59 74 w base b v cs) :
    Calls Try.prog 22 #[.pointer (some ⟨b, 0, none⟩), .int .u16 s, .string x] w (OpenPost 59 74 base b v cs s x w) := by
  obtain ⟨i0, hi, hz0, hz1, hz2⟩ := info_parts info74
  have hlo := hk.lo
  have hlt := hk.lt
  by_cases hf : (fnd x cs).isSome = true
  · have Hf := Lib.hid hf
    have hE : openE s x cs = 9 := by rw [openE, if_pos (.inl hf)]
    have HE := Lib.hid hE
    clear hE
    go_enter Try.func22, Try.ntmps22
    go_wp2_with (go_at_call 19; refine (c19 x base b v cs _ hm hk).mono ?_; rintro e w1 ⟨rfl, hb1⟩)
    go_ret
    exact OpenPost.same hk hb1 HE.out (by decide) rfl
  · have hf' : (fnd x cs).isSome = false := by simpa using hf
    clear hf
    by_cases hi0 : 0 ≤ idx s cs
    · have hE : openE s x cs = 9 := by rw [openE, if_pos (.inr hi0)]
      have HE := Lib.hid hE
      clear hE
      go_enter Try.func22, Try.ntmps22
      go_wp2_with fail
      refine (c19 x base b v cs _ hm hk).mono ?_
      rintro e w1 ⟨rfl, hb1⟩
      have hk1 := hk.below hb1 (Nat.le_refl _)
      go_wp2_with fail
      refine (c30 s base b v cs _ hm hk1).mono ?_
      rintro e w2 ⟨rfl, hb2⟩
      go_wp2
      go_ret
      exact OpenPost.same hk (hb1.trans (hb2.mono hb1.size)) HE.out (by decide) rfl
    · by_cases h8 : cs.length = 8
      · have hE : openE s x cs = 6 := by rw [openE, if_neg (by simp [hf', hi0]), if_pos h8]
        have HE := Lib.hid hE
        have H8 : ((cs.length : Int) == 8) = true := by simp; omega
        have H8' : (8 : Int) ≤ cs.length := by omega
        clear hE h8
        go_enter Try.func22, Try.ntmps22
        go_wp2_with fail
        refine (c19 x base b v cs _ hm hk).mono ?_
        rintro e w1 ⟨rfl, hb1⟩
        have hk1 := hk.below hb1 (Nat.le_refl _)
        go_wp2_with fail
        refine (c30 s base b v cs _ hm hk1).mono ?_
        rintro e w2 ⟨rfl, hb2⟩
        have hk2 := hk1.below hb2 (Nat.le_refl _)
        have hc := hk2.cell
        obtain ⟨A, cap, rfl, _⟩ := hk2.form
        go_wp2
        go_ret
        exact OpenPost.same hk (hb1.trans (hb2.mono hb1.size)) HE.out (by decide) rfl
      · have hE : openE s x cs = 0 := by rw [openE, if_neg (by simp [hf', hi0]), if_neg h8]
        have HE := Lib.hid hE
        have H8 : ((cs.length : Int) == 8) = false := by simp; omega
        have H8' : (cs.length : Int) < 8 := by omega
        clear hE h8
        go_enter Try.func22, Try.ntmps22
        go_wp2_with fail
        refine (c19 x base b v cs _ hm hk).mono ?_
        rintro e w1 ⟨rfl, hb1⟩
        have hk1 := hk.below hb1 (Nat.le_refl _)
        go_wp2_with fail
        refine (c30 s base b v cs _ hm hk1).mono ?_
        rintro e w2 ⟨rfl, hb2⟩
        have hk2 := hk1.below hb2 (Nat.le_refl _)
        have hc := hk2.cell
        have hfz := hk2.frozen
        have hb12 : Below w.heap.size w w2 := (hb1.trans (hb2.mono hb1.size))
        have hsz := hb12.size
        have HB := Lib.hid hb12
        have hown := hk2.own
        clear hb12 hk1 hb1
        obtain ⟨A, cap, rfl, _⟩ := hk2.form
        go_wp2_with (at_builtin; refine wpList_append_own_at _ rfl _ _ 57 rfl base 74 i0 (.agg #[.int .u16 0, .string ⟨#[]⟩]) 2 24 Try.underlying57 hi hz0 hz1 hz2 rfl (by decide) _ _ _ rfl (hown.alloc _) ⟨w2.heap.size, 0, none⟩ 1 1 [.int .u16 s, .string x] rfl rfl (cell_two_one _ _ _ _) ?_ (by unfold maxLen; omega) (by omega) (by simp; omega) ?_)
        · intro u hu
          simp at hu
          rcases hu with rfl | rfl <;> rfl
        · intro v' w3 hown' hgrow _ hat
          have P := Lib.hid (OpenPost.more (e := .returned (.int .i64 0)) (by decide) hk HB.out HE.out rfl hown' hgrow (by simpa using hat))
          have hbk := OpenPost.keeps (by decide) hk HB.out hgrow
          have hc3 : w3.cell? ⟨b, 0, none⟩ = some (.slice A cs.length cap) := by rw [World.cell?_of_block hbk, hc]
          have hf3 : w3.frozen? ⟨b, 0, none⟩ = false := by rw [World.frozen?_of_block hbk, hfz]
          obtain ⟨A', cap', rfl⟩ := own_form hown'
          clear hown' hgrow hat hbk
          go_wp2
          go_ret
          exact P.out

theorem info79 : (Try.prog.info? 79).map (fun i => (i.zero, i.size, i.bytes)) = some (some (.agg #[.int .u16 0, .string ⟨#[]⟩]), 2, 24) := by kernel_rfl

set_option maxHeartbeats 1000000 in
theorem c27 (s : Int) (x : ByteArray) (base b : Nat) (v : Value) (cs : List Ch) (w : World) (hm : cs.length ≤ 8) (hk : Bk 68 79 w base b v cs) :
    Calls Try.prog 27 #[.pointer (some ⟨b, 0, none⟩), .int .u16 s, .string x] w (OpenPost 68 79 base b v cs s x w) := by
  obtain ⟨i0, hi, hz0, hz1, hz2⟩ := info_parts info79
  have hlo := hk.lo
  have hlt := hk.lt
  by_cases hf : (fnd x cs).isSome = true
  · have Hf := Lib.hid hf
    have hE : openE s x cs = 9 := by rw [openE, if_pos (.inl hf)]
    have HE := Lib.hid hE
    clear hE
    go_enter Try.func27, Try.ntmps27
    go_wp2_with (go_at_call 20; refine (c20 x base b v cs _ hm hk).mono ?_; rintro e w1 ⟨rfl, hb1⟩)
    go_ret
    exact OpenPost.same hk hb1 HE.out (by decide) rfl
  · have hf' : (fnd x cs).isSome = false := by simpa using hf
    clear hf
    by_cases hi0 : 0 ≤ idx s cs
    · have hE : openE s x cs = 9 := by rw [openE, if_pos (.inr hi0)]
      have HE := Lib.hid hE
      clear hE
      go_enter Try.func27, Try.ntmps27
      go_wp2_with fail
      refine (c20 x base b v cs _ hm hk).mono ?_
      rintro e w1 ⟨rfl, hb1⟩
      have hk1 := hk.below hb1 (Nat.le_refl _)
      go_wp2_with fail
      refine (c34 s base b v cs _ hm hk1).mono ?_
      rintro e w2 ⟨rfl, rfl⟩
      go_wp2
      go_ret
      exact OpenPost.same hk hb1 HE.out (by decide) rfl
    · by_cases h8 : cs.length = 8
      · have hE : openE s x cs = 6 := by rw [openE, if_neg (by simp [hf', hi0]), if_pos h8]
        have HE := Lib.hid hE
        have H8 : ((cs.length : Int) == 8) = true := by simp; omega
        have H8' : (8 : Int) ≤ cs.length := by omega
        clear hE h8
        go_enter Try.func27, Try.ntmps27
        go_wp2_with fail
        refine (c20 x base b v cs _ hm hk).mono ?_
        rintro e w1 ⟨rfl, hb1⟩
        have hk1 := hk.below hb1 (Nat.le_refl _)
        go_wp2_with fail
        refine (c34 s base b v cs _ hm hk1).mono ?_
        rintro e w2 ⟨rfl, rfl⟩
        have hk2 := hk1.below (Below.refl _ _) (Nat.le_refl _)
        have hc := hk2.cell
        obtain ⟨A, cap, rfl, _⟩ := hk2.form
        go_wp2
        go_ret
        exact OpenPost.same hk hb1 HE.out (by decide) rfl
      · have hE : openE s x cs = 0 := by rw [openE, if_neg (by simp [hf', hi0]), if_neg h8]
        have HE := Lib.hid hE
        have H8 : ((cs.length : Int) == 8) = false := by simp; omega
        have H8' : (cs.length : Int) < 8 := by omega
        clear hE h8
        go_enter Try.func27, Try.ntmps27
        go_wp2_with fail
        refine (c20 x base b v cs _ hm hk).mono ?_
        rintro e w1 ⟨rfl, hb1⟩
        have hk1 := hk.below hb1 (Nat.le_refl _)
        go_wp2_with fail
        refine (c34 s base b v cs _ hm hk1).mono ?_
        rintro e w2 ⟨rfl, rfl⟩
        have hk2 := hk1.below (Below.refl _ _) (Nat.le_refl _)
        have hc := hk2.cell
        have hfz := hk2.frozen
        have hb12 : Below w.heap.size w w1 := hb1
        have hsz := hb12.size
        have HB := Lib.hid hb12
        have hown := hk2.own
        clear hb12 hk1 hb1
        obtain ⟨A, cap, rfl, _⟩ := hk2.form
        go_wp2_with (at_builtin; refine wpList_append_own_at _ rfl _ _ 66 rfl base 79 i0 (.agg #[.int .u16 0, .string ⟨#[]⟩]) 2 24 Try.underlying66 hi hz0 hz1 hz2 rfl (by decide) _ _ _ rfl (hown.alloc _) ⟨w1.heap.size, 0, none⟩ 1 1 [.int .u16 s, .string x] rfl rfl (cell_two_one _ _ _ _) ?_ (by unfold maxLen; omega) (by omega) (by simp; omega) ?_)
        · intro u hu
          simp at hu
          rcases hu with rfl | rfl <;> rfl
        · intro v' w3 hown' hgrow _ hat
          have P := Lib.hid (OpenPost.more (e := .returned (.int .i64 0)) (by decide) hk HB.out HE.out rfl hown' hgrow (by simpa using hat))
          have hbk := OpenPost.keeps (by decide) hk HB.out hgrow
          have hc3 : w3.cell? ⟨b, 0, none⟩ = some (.slice A cs.length cap) := by rw [World.cell?_of_block hbk, hc]
          have hf3 : w3.frozen? ⟨b, 0, none⟩ = false := by rw [World.frozen?_of_block hbk, hfz]
          obtain ⟨A', cap', rfl⟩ := own_form hown'
          clear hown' hgrow hat hbk
          go_wp2
          go_ret
          exact P.out

end Go.Proofs.Ytpfacfolocjidaa
