import Derived.Test.YtpfacfolocjidaaRef1
namespace Go.Proofs.Ytpfacfolocjidaa
open Go.RowKit

theorem byts_new (w : World) (l : List UInt8) : Byts (w.alloc (.cells (bvs l).toArray 5)) (some ⟨w.heap.size, 0, none⟩) l := by
  intro _
  refine ⟨_, _, rfl, by simp, fun j hj => ?_⟩
  rw [World.cell?_alloc_new, Nat.zero_add]
  simp [bvs, hj, bv]
theorem Byts.alloc {w : World} {A : Option Addr} {l : List UInt8} (h : Byts w A l) (o : Obj) : Byts (w.alloc o) A l := h.below ((Below.refl _ _).alloc (Nat.le_refl _) o) (Nat.le_refl _)
theorem parts4 (w : World) (l1 l2 l3 : List UInt8) (x : ByteArray) (c c1 c2 c3 : Nat) (fr : Nat × Nat) :
    PartsAt (((((w.alloc (.cells (bvs l1).toArray 5)).alloc (.cells (bvs l2).toArray 5)).alloc (.cells (bvs l3).toArray 5)).alloc (.cells (bytesRow x c) 5 fr)).alloc
      (.cells #[.slice (some ⟨w.heap.size, 0, none⟩) l1.length c1, .slice (some ⟨w.heap.size + 1, 0, none⟩) l2.length c2, .slice (some ⟨w.heap.size + 1 + 1, 0, none⟩) l3.length c3, .slice (some ⟨w.heap.size + 1 + 1 + 1, 0, none⟩) x.size c] 27)).drew (w.heap.size + 1 + 1 + 1 + 1)
      [(.slice (some ⟨w.heap.size, 0, none⟩) l1.length c1, l1), (.slice (some ⟨w.heap.size + 1, 0, none⟩) l2.length c2, l2), (.slice (some ⟨w.heap.size + 1 + 1, 0, none⟩) l3.length c3, l3), (.slice (some ⟨w.heap.size + 1 + 1 + 1, 0, none⟩) x.size c, x.data.toList)] := by
  have b1 := ((((byts_new w l1).alloc (.cells (bvs l2).toArray 5)).alloc (.cells (bvs l3).toArray 5)).alloc (.cells (bytesRow x c) 5 fr))
  have b2 := (((byts_new (w.alloc (.cells (bvs l1).toArray 5)) l2).alloc (.cells (bvs l3).toArray 5)).alloc (.cells (bytesRow x c) 5 fr))
  have b3 := ((byts_new ((w.alloc (.cells (bvs l1).toArray 5)).alloc (.cells (bvs l2).toArray 5)) l3).alloc (.cells (bytesRow x c) 5 fr))
  have b4 := (bytesRow_cells (((w.alloc (.cells (bvs l1).toArray 5)).alloc (.cells (bvs l2).toArray 5)).alloc (.cells (bvs l3).toArray 5)) x c fr)
  simp only [World.size_alloc] at b2 b3 b4
  intro k hk
  have hc : ∀ (W : World) (cs : Array Value) (n j : Nat), n = W.heap.size → (W.alloc (.cells cs 27)).drew.cell? ⟨n, j, none⟩ = cs[j]? := fun W cs n j h => by subst h; exact World.cell?_alloc_new _ _ _ _
  refine ⟨?_, ?_⟩
  · rw [hc _ _ _ _ (by simp only [World.size_alloc])]
    match k, hk with
    | 0, _ => rfl
    | 1, _ => rfl
    | 2, _ => rfl
    | 3, _ => rfl
  · match k, hk with
    | 0, _ => exact ⟨_, _, rfl, b1.alloc _⟩
    | 1, _ => exact ⟨_, _, rfl, b2.alloc _⟩
    | 2, _ => exact ⟨_, _, rfl, b3.alloc _⟩
    | 3, _ => exact ⟨_, _, rfl, b4.alloc _⟩

set_option maxHeartbeats 400000 in
theorem c13_bad (s : Int) (x : ByteArray) (base b : Nat) (v : Value) (cs : List Ch) (w : World) (hs : x.size ≤ maxLen) (hk : Bk 68 79 w base b v cs) (hw : wordB x 1 32 = false) :
    Calls Try.prog 13 #[.pointer (some ⟨b, 0, none⟩), .int .u16 s, .string x] w (BkOpen 68 79 base b v cs s x w) := by
  have HE := Lib.hid (show openEE s x cs = 1 by simp [openEE, hw])
  go_enter Try.func13, Try.ntmps13
  go_wp2_with fail
  refine (c26 _ _ _ _ hs).mono ?_
  rintro e w1 ⟨rfl, rfl⟩
  have HB := Lib.hid ((Below.refl w.heap.size w).alloc (Nat.le_refl _) (.cells #[.int .u16 0, .int .u32 0, .slice none 0 0] 38))
  go_wp2
  exact bodyPost_ret (v := .tuple #[.agg #[.int .u16 0, .int .u32 0, .slice none 0 0], .int .i64 1]) (by simp [results, Try.results13, go_sem]) rfl (BkOpen.no HE.out (by decide) hk HB.out rfl)

set_option maxHeartbeats 400000 in
theorem c13_no (s : Int) (x : ByteArray) (base b : Nat) (v : Value) (cs : List Ch) (w : World) (hs : x.size ≤ maxLen) (hm : cs.length ≤ 8) (hk : Bk 68 79 w base b v cs) (hw : wordB x 1 32 = true) (hE : openE s x cs ≠ 0) :
    Calls Try.prog 13 #[.pointer (some ⟨b, 0, none⟩), .int .u16 s, .string x] w (BkOpen 68 79 base b v cs s x w) := by
  have HE := Lib.hid (show openEE s x cs = openE s x cs by simp [openEE, hw])
  have HE0 := Lib.hid hE
  have hEb : (openE s x cs == 0) = false := by simpa using hE
  have hlt := hk.lt
  have hne := hk.own_lt
  clear hE
  have hR := Blk.new w 38 #[.int .u16 0, .int .u32 0, .slice none 0 0]
  have HB := Lib.hid ((Below.refl w.heap.size w).alloc (Nat.le_refl _) (.cells #[.int .u16 0, .int .u32 0, .slice none 0 0] 38))
  have hk1 := hk.below HB.out (Nat.le_refl _)
  have hw' : wordB x 1 32 = true := hw
  go_enter Try.func13, Try.ntmps13
  go_wp2_with fail
  refine (c26 _ _ _ _ hs).mono ?_
  rintro e w1 ⟨rfl, rfl⟩
  go_wp2_with fail
  refine (c27 s x base b v cs _ hm hk1).mono ?_
  rintro e w2 ⟨rfl, v', hk2, f, hat⟩
  rw [openC, if_neg HE0.out] at hk2
  have hR2 := hR.fr f (by omega) hne
  obtain ⟨a0, a1, a2, f0, f1, f2, hlt2⟩ := hR2.three
  have hs1 := HB.out.size
  have hv' : v'.ownBlock ≠ some w.heap.size := by
    rcases hat with h | ⟨g, h, hg⟩
    · rw [h]; exact hne
    · have := hR.lt; rw [h]; simp; omega
  have P : ∀ e, e = .returned (.tuple #[.agg #[.int .u16 0, .int .u32 0, .slice none 0 0], .int .i64 (openE s x cs)]) → BkOpen 68 79 base b v cs s x w e (((w2.setCell ⟨w.heap.size, 0, none⟩ (.int .u16 0)).setCell ⟨w.heap.size, 1, none⟩ (.int .u32 0)).setCell ⟨w.heap.size, 2, none⟩ (.slice none 0 0)) := by
    intro e he
    refine BkOpen.refused HE.out HE0.out (((hk2.far ?_ hv' _).far ?_ hv' _).far ?_ hv' _) ((((Fr.after HB.out f).setNew (Nat.le_refl _) _).setNew (Nat.le_refl _) _).setNew (Nat.le_refl _) _) ?_ he
    · simp; omega
    · simp; omega
    · simp; omega
    · rcases hat with h | ⟨g, h, hg⟩
      · exact .inl h
      · exact .inr ⟨g, h, by omega⟩
  have HP := Lib.hid P
  clear P hk2 hR2 f hat hv' hR
  go_wp2
  exact bodyPost_ret (v := .tuple #[.agg #[.int .u16 0, .int .u32 0, .slice none 0 0], .int .i64 (openE s x cs)]) (by simp [results, Try.results13, go_sem, a0, a1, a2]) rfl (HP.out _ rfl)

set_option maxHeartbeats 1000000 in
theorem c13_yes (s : Int) (x : ByteArray) (base b : Nat) (v : Value) (cs : List Ch) (w : World) (hs : x.size ≤ maxLen) (hm : cs.length ≤ 8) (hk : Bk 68 79 w base b v cs) (hw : wordB x 1 32 = true) (hE : openE s x cs = 0) :
    Calls Try.prog 13 #[.pointer (some ⟨b, 0, none⟩), .int .u16 s, .string x] w (BkOpen 68 79 base b v cs s x w) := by
  have HE := Lib.hid (show openEE s x cs = 0 by simp [openEE, hw, hE])
  have HE0 := Lib.hid hE
  have hlt := hk.lt
  have hne := hk.own_lt
  have hx32 : (x.size : Int) ≤ 32 := by simp only [wordB, Bool.and_eq_true, decide_eq_true_eq] at hw; omega
  have hconv := fun w => run_bytes_of_string (P := Try.prog) w 9 27 5 x Try.underlying9 Try.underlying27 Try.underlying5
  have hR := Blk.new w 38 #[.int .u16 0, .int .u32 0, .slice none 0 0]
  have HB := Lib.hid ((Below.refl w.heap.size w).alloc (Nat.le_refl _) (.cells #[.int .u16 0, .int .u32 0, .slice none 0 0] 38))
  have hk1 := hk.below HB.out (Nat.le_refl _)
  have hw' : wordB x 1 32 = true := hw
  go_enter Try.func13, Try.ntmps13
  go_wp2_with fail
  refine (c26 _ _ _ _ hs).mono ?_
  rintro e w1 ⟨rfl, rfl⟩
  go_wp2_with fail
  refine (c27 s x base b v cs _ hm hk1).mono ?_
  rintro e w2 ⟨rfl, v', hk2, f, hat⟩
  rw [openC, if_pos HE0.out] at hk2
  have hR2 := hR.fr f (by omega) hne
  have hlt2 := hR2.lt
  have HK2 := Lib.hid hk2
  have HF := Lib.hid f
  have HAT := Lib.hid hat
  clear hk2 f hat hk1
  go_wp2_with fail
  refine (ref_two x.size _ (by omega) (by omega)).mono ?_
  rintro e w3 ⟨rfl, rfl⟩
  go_wp2_with fail
  refine (ref_two 0 _ (by omega) (by omega)).mono ?_
  rintro e w4 ⟨rfl, rfl⟩
  go_wp2_with fail
  have hps := parts4 w2 [3, 0, 0, 0, 0, 0, 0, 0] [byteOf (x.size / 256), byteOf (x.size % 256)] [byteOf 0, byteOf 0] x
  refine (ref_join _ 4 _ _ (hps _ 8 2 2 _) (by show 4 ≤ _; omega) (by simp only [catP, List.flatMap_cons, List.flatMap_nil, List.length_append, List.length_cons, List.length_nil]; rw [show x.data.toList.length = x.size from rfl]; omega)).mono ?_
  rintro e w8 ⟨v8, rfl, hO, hb8⟩
  have hD : ∀ v1 v2 v3 v4 : Value, catP [(v1, [3, 0, 0, 0, 0, 0, 0, 0]), (v2, [byteOf (x.size / 256), byteOf (x.size % 256)]), (v3, [byteOf 0, byteOf 0]), (v4, x.data.toList)] = openD x := by
    intro v1 v2 v3 v4
    have h1 : (x.size : Int) / 256 = 0 := by omega
    have h2 : (x.size : Int) % 256 = x.size := by omega
    rw [h1, h2]
    simp only [catP, List.flatMap_cons, List.flatMap_nil, List.append_nil]
    rfl
  have hB5 : ∀ (O1 O2 O3 O4 O5 : Obj), Below w2.heap.size w2 (((((w2.alloc O1).alloc O2).alloc O3).alloc O4).alloc O5).drew := fun O1 O2 O3 O4 O5 =>
    (((((((Below.refl _ _).alloc (Nat.le_refl _) _).alloc (by simp) _).alloc (by simp; omega) _).alloc (by simp; omega) _).alloc (by simp; omega) _)).drew
  have hb8' := (hB5 _ _ _ _ _).trans (hb8.mono (hB5 _ _ _ _ _).size)
  have hO' := own_mono hO (hB5 _ _ _ _ _).size
  have hN := hO'.1
  obtain ⟨A8, c8, rfl⟩ := own_form hO
  clear hO hb8 hps
  have hR8 := hR2.below hb8' hlt2
  obtain ⟨a0, a1, a2, f0, f1, f2, hlt8⟩ := hR8.three
  have P := BkOpen.yes (r0 := .int .u16 s) (r1 := .int .u32 50) HE.out HB.out hlt HK2.out HF.out HAT.out hb8' hlt2 (v8 := .slice A8 _ c8) (n := (openD x).length) (r2 := .slice A8 (openD x).length c8) (by rw [hD] at hO'; exact hO') rfl hne hR.lt
  have HP := Lib.hid P
  clear P hR8 hR2 hR hO' hN hb8' hconv hB5
  rw [hD]
  clear hD
  go_wp2
  exact bodyPost_ret (v := .tuple #[.agg #[.int .u16 s, .int .u32 50, .slice A8 (openD x).length c8], .int .i64 0]) (by simp [results, Try.results13, go_sem, a0, a1, a2]) rfl (HP.out _ rfl)
theorem c13 (s : Int) (x : ByteArray) (base b : Nat) (v : Value) (cs : List Ch) (w : World) (hs : x.size ≤ maxLen) (hm : cs.length ≤ 8) (hk : Bk 68 79 w base b v cs) :
    Calls Try.prog 13 #[.pointer (some ⟨b, 0, none⟩), .int .u16 s, .string x] w (BkOpen 68 79 base b v cs s x w) := by
  cases hw : wordB x 1 32 with
  | false => exact c13_bad s x base b v cs w hs hk hw
  | true =>
    by_cases hE : openE s x cs = 0
    · exact c13_yes s x base b v cs w hs hm hk hw hE
    · exact c13_no s x base b v cs w hs hm hk hw hE
end Go.Proofs.Ytpfacfolocjidaa
