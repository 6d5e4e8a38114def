import Derived.Test.YtpfacfolocjidaaOpen
namespace Go.Proofs.Ytpfacfolocjidaa
open Go.RowKit

theorem c9 (w : World) : Calls Try.prog 9 #[] w fun e w' => e = .returned (.pointer (some ⟨w.heap.size, 0, none⟩)) ∧ w' = w.alloc (.cells #[.slice none 0 0] 59) := by
  go_enter Try.func9, Try.ntmps9
  go_wp2
  go_ret
  exact ⟨rfl, rfl⟩
theorem c12 (w : World) : Calls Try.prog 12 #[] w fun e w' => e = .returned (.pointer (some ⟨w.heap.size, 0, none⟩)) ∧ w' = w.alloc (.cells #[.slice none 0 0] 68) := by
  go_enter Try.func12, Try.ntmps12
  go_wp2
  go_ret
  exact ⟨rfl, rfl⟩
theorem c11 (base b : Nat) (v : Value) (cs : List Ch) (w : World) (hk : Bk 59 74 w base b v cs) :
    Calls Try.prog 11 #[.pointer (some ⟨b, 0, none⟩)] w fun e w' => e = .returned (.int .i64 cs.length) ∧ w = w' := by
  obtain ⟨A, cap, rfl, hr⟩ := hk.form
  have hc := hk.cell
  clear hk
  go_enter Try.func11, Try.ntmps11
  go_wp2
  go_ret
  exact ⟨rfl, rfl⟩
theorem c18 (base b : Nat) (v : Value) (cs : List Ch) (w : World) (hk : Bk 68 79 w base b v cs) :
    Calls Try.prog 18 #[.pointer (some ⟨b, 0, none⟩)] w fun e w' => e = .returned (.int .i64 cs.length) ∧ w = w' := by
  obtain ⟨A, cap, rfl, hr⟩ := hk.form
  have hc := hk.cell
  clear hk
  go_enter Try.func18, Try.ntmps18
  go_wp2
  go_ret
  exact ⟨rfl, rfl⟩

theorem info5 : (Try.prog.info? 5).map (fun i => (i.zero, i.size, i.bytes)) = some (some (.int .u8 0), 1, 1) := by kernel_rfl
def bv (c : UInt8) : Value := .int .u8 c.toNat
def bvs (l : List UInt8) : List Value := l.map bv
theorem bvs_append (a b : List UInt8) : bvs (a ++ b) = bvs a ++ bvs b := List.map_append ..
theorem bvs_len (a : List UInt8) : (bvs a).length = a.length := List.length_map ..
theorem bvs_one (a : List UInt8) : ∀ u ∈ bvs a, u.oneCell' = true := by
  intro u hu
  obtain ⟨c, _, rfl⟩ := List.mem_map.1 hu
  rfl
def byteOf (n : Int) : UInt8 := UInt8.ofNat n.toNat
theorem bv_byteOf {n : Int} (h0 : 0 ≤ n) (h1 : n < 256) : bv (byteOf n) = .int .u8 n := by
  unfold bv byteOf
  congr 1
  have : n.toNat < 256 := by omega
  rw [UInt8.toNat_ofNat', Nat.mod_eq_of_lt (by simpa using this)]
  omega
/-- a new block's cells -/
theorem cells_new (w : World) (xs : List Value) (t : TypeId) : ∀ j u, xs[j]? = some u → (w.alloc (.cells xs.toArray t)).cell? ((⟨w.heap.size, 0, none⟩ : Addr).add j) = some u := by
  intro j u hj
  rw [add0, World.cell?_alloc_new]
  simpa using hj
/-- a variable of type T that holds a row of the call's own -/
structure Vr (T E size : Nat) (w : World) (base p : Nat) (v : Value) (n : Nat) (xs : List Value) : Prop where
  blk : w.heap[p]? = some (.cells #[v] T (0, 0))
  lo : base ≤ p
  own : w.ownsRow base E size v n xs
section
variable {T E size base p n : Nat} {w w' w1 w3 : World} {v : Value} {xs : List Value}
theorem Vr.lt (h : Vr T E size w base p v n xs) : p < w.heap.size := (Array.getElem?_eq_some_iff.1 h.blk).1
theorem Vr.cell (h : Vr T E size w base p v n xs) : w.cell? ⟨p, 0, none⟩ = some v := by
  have := h.blk
  simp [World.cell?, this]
theorem Vr.frozen (h : Vr T E size w base p v n xs) : w.frozen? ⟨p, 0, none⟩ = false := by
  have := h.blk
  simp [World.frozen?, this]
theorem Vr.below {B : Nat} (h : Vr T E size w base p v n xs) (hb : Below B w w') (hB : w.heap.size ≤ B) : Vr T E size w' base p v n xs :=
  ⟨(hb.block p (by have := h.lt; omega)).trans h.blk, h.lo, h.own.kept (row := none) ⟨hb.os, hb.tape, hb.output, hb.size, fun k hk _ => hb.block k (by omega)⟩ (by cases v.ownBlock <;> simp)⟩
theorem Vr.ne (hET : E ≠ T) (h : Vr T E size w base p v n xs) : v.ownBlock ≠ some p := by
  intro he
  rcases h.own.2 with ⟨rfl, _⟩ | ⟨g, cap, cur, rfl, _, hgg, _⟩
  · simp [Value.ownBlock] at he
  · simp only [Value.ownBlock, Option.some.injEq] at he
    subst he
    rw [h.blk] at hgg
    simp at hgg
    exact hET hgg.2.symm
theorem Vr.keeps (hET : E ≠ T) (hk : Vr T E size w base p v n xs) (hb : Below w.heap.size w w1) (hg : w1.grownBy w3 v.ownBlock) : w3.heap[p]? = some (.cells #[v] T (0, 0)) := by
  have hlt := hk.lt
  have hs := hb.size
  rw [hg.block p (by omega) (fun h => hk.ne hET h.symm)]
  exact (hk.below hb (Nat.le_refl _)).blk
theorem Vr.keeps_cell (hET : E ≠ T) (hk : Vr T E size w base p v n xs) (hb : Below w.heap.size w w1) (hg : w1.grownBy w3 v.ownBlock) : w3.cell? ⟨p, 0, none⟩ = some v := by
  have := hk.keeps hET hb hg
  simp [World.cell?, this]
theorem Vr.keeps_frozen (hET : E ≠ T) (hk : Vr T E size w base p v n xs) (hb : Below w.heap.size w w1) (hg : w1.grownBy w3 v.ownBlock) : w3.frozen? ⟨p, 0, none⟩ = false := by
  have := hk.keeps hET hb hg
  simp [World.frozen?, this]
theorem Vr.more {v' : Value} {n' : Nat} {xs' : List Value} (hET : E ≠ T) (hk : Vr T E size w base p v n xs) (hb : Below w.heap.size w w1) (hg : w1.grownBy w3 v.ownBlock)
    (hown : w3.ownsRow base E size v' n' xs') (hat : v'.ownBlock = v.ownBlock ∨ v'.ownBlock = some w1.heap.size) :
    Vr T E size (w3.setCell ⟨p, 0, none⟩ v') base p v' n' xs' ∧ Fr w (w3.setCell ⟨p, 0, none⟩ v') p v ∧ (v'.ownBlock = v.ownBlock ∨ ∃ g, v'.ownBlock = some g ∧ w.heap.size ≤ g) := by
  have hlt := hk.lt
  have hs := hb.size
  have hg2 := hg.size
  have hb2 := hk.keeps hET hb hg
  have hvb := hk.ne hET
  have hv'b : v'.ownBlock ≠ some p := by
    rcases hat with h | h
    · rw [h]; exact hvb
    · rw [h]; simp; omega
  refine ⟨⟨?_, hk.lo, ?_⟩, ⟨?_, ?_, ?_, ?_, ?_⟩, ?_⟩
  · simp [World.setCell, Array.getElem?_modify, hb2]
  · exact hown.kept (row := some p) ⟨rfl, rfl, rfl, by simp [World.setCell], fun k _ hk => Below.heap_setCell _ _ _ _ (fun h => hk (by rw [h]))⟩ (.inr hv'b)
  · exact hg.os.trans hb.os
  · exact hg.tape.trans hb.tape
  · exact hg.output.trans hb.output
  · simp [World.setCell]; omega
  · intro k hk hkb hkv
    rw [Below.heap_setCell _ _ _ _ hkb, hg.block k (by omega) hkv]
    exact hb.block k hk
  · rcases hat with h | h
    · exact .inl h
    · exact .inr ⟨_, h, hs⟩
theorem Vr.below_base (hk : Vr T E size w base p v n xs) (f : Fr w w' p v) : Below base w w' :=
  f.below hk.lo (fun k h => (hk.own.lt k h).1) (by have := hk.lt; have := hk.lo; omega)
end

/-- behind a writer's call: what it holds; what was there below 'base' is as it was -/
def WrPost (T base p : Nat) (bs : List UInt8) (w : World) (e : Ending) (w' : World) : Prop :=
  e = .returned (.tuple #[]) ∧ ∃ v', Vr T 5 1 w' base p v' bs.length (bvs bs) ∧ Below base w w'
theorem WrPost.mk_ {T base p : Nat} {bs news : List UInt8} {n' : Nat} {xs' : List Value} {v v' : Value} {w w1 w3 : World} (hET : 5 ≠ T) (hk : Vr T 5 1 w base p v bs.length (bvs bs)) (hb : Below w.heap.size w w1) (hg : w1.grownBy w3 v.ownBlock)
    (hown : w3.ownsRow base 5 1 v' n' xs') (hat : v'.ownBlock = v.ownBlock ∨ v'.ownBlock = some w1.heap.size) (hn : n' = bs.length + news.length) (hx : xs' = bvs bs ++ bvs news) :
    WrPost T base p (bs ++ news) w (.returned (.tuple #[])) (w3.setCell ⟨p, 0, none⟩ v') := by
  obtain ⟨h1, h2, _⟩ := hk.more hET hb hg hown hat
  subst hn hx
  exact ⟨rfl, v', by rw [bvs_append, List.length_append]; exact h1, hk.below_base h2⟩

set_option maxHeartbeats 400000 in
theorem c24 (n : Int) (base p : Nat) (v : Value) (bs : List UInt8) (w : World) (h0 : 0 ≤ n) (h1 : n < 65536) (hk : Vr 62 5 1 w base p v bs.length (bvs bs)) (hl : bs.length ≤ 1000000000) :
    Calls Try.prog 24 #[.pointer (some ⟨p, 0, none⟩), .int .u16 n] w (WrPost 62 base p (bs ++ [byteOf (n / 256), byteOf (n % 256)]) w) := by
  obtain ⟨i0, hi, hz0, hz1, hz2⟩ := info_parts info5
  have hc := hk.cell
  have hf := hk.frozen
  have hown := hk.own
  have hlt := hk.lt
  have hlo := hk.lo
  have hbs := bvs_len bs
  have Hbs := Lib.hid hbs
  clear hbs
  obtain ⟨A, cap, rfl⟩ := own_form hown
  go_enter Try.func24, Try.ntmps24
  go_wp2_with (at_builtin; refine wpList_append_own_at _ rfl _ _ 62 rfl base 5 i0 (.int .u8 0) 1 1 Try.underlying62 hi hz0 hz1 hz2 rfl (by decide) _ _ _ rfl (hown.alloc _) ⟨w.heap.size, 0, none⟩ 2 2 [.int .u8 (n / 256), .int .u8 (n % 256)] rfl rfl (cells_new _ _ _) ?_ (by unfold maxLen; omega) (by omega) (by simp; omega) ?_)
  · intro u hu
    simp at hu
    rcases hu with rfl | rfl <;> rfl
  · intro v' w3 hown' hgrow _ hat
    have hbb : Below w.heap.size w (w.alloc (.cells #[.int .u8 (n / 256), .int .u8 (n % 256)] 5)) := (Below.refl _ _).alloc (Nat.le_refl _) _
    have P := Lib.hid (WrPost.mk_ (news := [byteOf (n / 256), byteOf (n % 256)]) (by decide) hk hbb hgrow hown' (by simpa using hat) rfl (by simp only [bvs, List.map_cons, List.map_nil]; rw [bv_byteOf (by omega) (by omega), bv_byteOf (by omega) (by omega)]))
    have hc3 := hk.keeps_cell (by decide) hbb hgrow
    have hf3 := hk.keeps_frozen (by decide) hbb hgrow
    obtain ⟨A', cap', rfl⟩ := own_form hown'
    clear hown' hgrow hat hbb
    go_wp2
    go_end0
    exact P.out

set_option maxHeartbeats 400000 in
theorem c23 (n : Int) (base p : Nat) (v : Value) (bs : List UInt8) (w : World) (h0 : 0 ≤ n) (h1 : n < 4294967296) (hk : Vr 62 5 1 w base p v bs.length (bvs bs)) (hl : bs.length ≤ 1000000000) :
    Calls Try.prog 23 #[.pointer (some ⟨p, 0, none⟩), .int .u32 n] w (WrPost 62 base p (bs ++ [byteOf (n / 16777216), byteOf (n / 65536 % 256), byteOf (n / 256 % 256), byteOf (n % 256)]) w) := by
  obtain ⟨i0, hi, hz0, hz1, hz2⟩ := info_parts info5
  have hc := hk.cell
  have hf := hk.frozen
  have hown := hk.own
  have hlt := hk.lt
  have hlo := hk.lo
  have hbs := bvs_len bs
  have Hbs := Lib.hid hbs
  clear hbs
  obtain ⟨A, cap, rfl⟩ := own_form hown
  go_enter Try.func23, Try.ntmps23
  go_wp2_with (at_builtin; refine wpList_append_own_at _ rfl _ _ 62 rfl base 5 i0 (.int .u8 0) 1 1 Try.underlying62 hi hz0 hz1 hz2 rfl (by decide) _ _ _ rfl (hown.alloc _) ⟨w.heap.size, 0, none⟩ 4 4 [.int .u8 (n / 16777216), .int .u8 (n / 65536 % 256), .int .u8 (n / 256 % 256), .int .u8 (n % 256)] rfl rfl (cells_new _ _ _) ?_ (by unfold maxLen; omega) (by omega) (by simp; omega) ?_)
  · intro u hu
    simp at hu
    rcases hu with rfl | rfl | rfl | rfl <;> rfl
  · intro v' w3 hown' hgrow _ hat
    have hbb : Below w.heap.size w (w.alloc (.cells #[.int .u8 (n / 16777216), .int .u8 (n / 65536 % 256), .int .u8 (n / 256 % 256), .int .u8 (n % 256)] 5)) := (Below.refl _ _).alloc (Nat.le_refl _) _
    have P := Lib.hid (WrPost.mk_ (news := [byteOf (n / 16777216), byteOf (n / 65536 % 256), byteOf (n / 256 % 256), byteOf (n % 256)]) (by decide) hk hbb hgrow hown' (by simpa using hat) rfl (by simp only [bvs, List.map_cons, List.map_nil]; rw [bv_byteOf (by omega) (by omega), bv_byteOf (by omega) (by omega), bv_byteOf (by omega) (by omega), bv_byteOf (by omega) (by omega)]))
    have hc3 := hk.keeps_cell (by decide) hbb hgrow
    have hf3 := hk.keeps_frozen (by decide) hbb hgrow
    obtain ⟨A', cap', rfl⟩ := own_form hown'
    clear hown' hgrow hat hbb
    go_wp2
    go_end0
    exact P.out

end Go.Proofs.Ytpfacfolocjidaa
