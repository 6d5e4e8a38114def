import Derived.Test.YtpfacfolocjidaaRefuses
import Derived.Test.YtpfacfolocjidaaFull
namespace Go.Proofs.Ytpfacfolocjidaa
open Go.RowKit

theorem c14_nil (s k : Int) (v : Value) (w : World) :
    Calls Try.prog 14 #[.pointer none, .agg #[.int .u16 s, .int .u32 k, v]] w fun e w' => e = .returned (.tuple #[.agg #[.int .u16 0, .int .u32 0, .slice none 0 0], .string ⟨#[]⟩, .int .i64 1]) ∧ Below w.heap.size w w' := by
  have hb : Below w.heap.size w (((w.alloc (.cells #[.int .u16 s, .int .u32 k, v] 29)).alloc (.cells #[.int .u16 0, .int .u32 0, .slice none 0 0] 29)).alloc (.cells #[.int .u16 0, .int .u32 0, .slice none 0 0] 29)) := (((Below.refl _ _).alloc (Nat.le_refl _) _).alloc (by simp) _).alloc (by simp; omega) _
  go_enter Try.func14, Try.ntmps14
  go_wp2
  exact bodyPost_ret (v := .tuple #[.agg #[.int .u16 0, .int .u32 0, .slice none 0 0], .string ⟨#[]⟩, .int .i64 1]) (by simp [results, Try.results14, go_sem]) rfl ⟨rfl, hb⟩
theorem c10_nil (s : Int) (x : ByteArray) (w : World) :
    Calls Try.prog 10 #[.pointer none, .int .u16 s, .string x] w fun e w' => e = .returned (.tuple #[.agg #[.int .u16 0, .int .u32 0, .slice none 0 0], .int .i64 1]) ∧ Below w.heap.size w w' := by
  have hb : Below w.heap.size w (w.alloc (.cells #[.int .u16 0, .int .u32 0, .slice none 0 0] 29)) := (Below.refl _ _).alloc (Nat.le_refl _) _
  go_enter Try.func10, Try.ntmps10
  go_wp2
  exact bodyPost_ret (v := .tuple #[.agg #[.int .u16 0, .int .u32 0, .slice none 0 0], .int .i64 1]) (by simp [results, Try.results10, go_sem]) rfl ⟨rfl, hb⟩
theorem c19_nil (x : ByteArray) (w : World) :
    Calls Try.prog 19 #[.pointer none, .string x] w fun e w' => e = .returned (.tuple #[.int .u16 0, .bool false]) ∧ w = w' := by
  go_enter Try.func19, Try.ntmps19
  go_wp2
  go_ret2
  exact ⟨rfl, rfl⟩
theorem c11_nil (w : World) : Calls Try.prog 11 #[.pointer none] w fun e w' => e = .returned (.int .i64 0) ∧ w = w' := by
  go_enter Try.func11, Try.ntmps11
  go_wp2
  go_ret
  exact ⟨rfl, rfl⟩
theorem x_word : wordB ⟨#[120]⟩ 1 32 = true := by decide +kernel
theorem take_own (s : Int) (x : ByteArray) (d : List UInt8) : takeS [(s, x)] s 53 d = ⟨s, 53, d, x, 0, [(s, x)]⟩ := by
  simp [takeS, idx, labAt]

theorem own_ne_blk {w : World} {base e size n : Nat} {v : Value} {xs : List Value} {g t : Nat} {cs : Array Value} (h : w.ownsRow base e size v n xs) (hg : Blk w g t cs) (hne : e ≠ t) : v.ownBlock ≠ some g := by
  rcases h.2 with ⟨rfl, _⟩ | ⟨g', cap, cur, rfl, _, hh, _⟩
  · simp [Value.ownBlock]
  · intro he
    simp only [Value.ownBlock, Option.some.injEq] at he
    subst he
    unfold Blk at hg
    rw [hg] at hh
    simp at hh
    exact hne hh.2.symm
/-- one byte of a row of the call's own is written -/
def IntRow (w : World) (base : Nat) (v : Value) (n : Nat) : Prop := ∃ xs, w.ownsRow base 5 1 v n xs ∧ ∀ j, j < n → ∃ z, xs[j]? = some (.int .u8 z)
theorem IntRow.of_bytes {w : World} {base : Nat} {v : Value} {bs : List UInt8} (h : w.ownsRow base 5 1 v bs.length (bvs bs)) : IntRow w base v bs.length :=
  ⟨_, h, fun j hj => ⟨_, by simp only [bvs, List.getElem?_map, List.getElem?_eq_getElem hj]; rfl⟩⟩
theorem IntRow.at_ {w : World} {base n j c : Nat} {A : Option Addr} (h : IntRow w base (.slice A n c) n) (hj : j < n) : ∃ g z, A = some ⟨g, 0, none⟩ ∧ base ≤ g ∧ n ≤ c ∧ w.cell? ⟨g, j, none⟩ = some (.int .u8 z) ∧ w.frozen? ⟨g, j, none⟩ = false ∧ (∀ u, IntRow (w.setCell ⟨g, j, none⟩ (.int .u8 u)) base (.slice A n c) n) ∧ (∀ t cs g', Blk w g' t cs → t ≠ 5 → g' ≠ g) := by
  obtain ⟨xs, h1, h2⟩ := h
  rcases h1.2 with ⟨hv, hn⟩ | ⟨g, cap, cur, hv, hg, hh, hc, _⟩
  · omega
  · injection hv with hA _ hcc
    subst hA hcc
    obtain ⟨z, hz⟩ := h2 j hj
    refine ⟨g, z, rfl, hg, hc, ?_, World.ownsRow.frozenAt h1 j, fun u => ⟨xs.set j (.int .u8 u), (World.ownsRow.stored h1 j _).1, fun i hi => ?_⟩, fun t cs g' hb ht he => ?_⟩
    · rw [World.ownsRow.cellAt h1 j (by omega)]; exact hz
    · by_cases hij : j = i
      · subst hij
        have := (List.getElem?_eq_some_iff.1 hz).1
        exact ⟨u, by rw [List.getElem?_set_self this]⟩
      · obtain ⟨z', hz'⟩ := h2 i hi
        exact ⟨z', by rw [List.getElem?_set_ne hij]; exact hz'⟩
    · exact own_ne_blk h1 hb (fun h => ht h.symm) (by simp [Value.ownBlock, he])
theorem Blk.setFar {w : World} {g t : Nat} {cs : Array Value} (h : Blk w g t cs) {p : Addr} (hp : g ≠ p.block) (u : Value) : Blk (w.setCell p u) g t cs := (Below.heap_setCell w p u g hp).trans h

set_option maxHeartbeats 1000000 in
set_option maxRecDepth 100000 in
theorem c7 (s k : Int) (A : Option Addr) (c : Nat) (d : List UInt8) (lb : ByteArray) (w : World) (hB : Byts w A d) (hl : d.length ≤ 140737488351232) :
    Calls Try.prog 7 #[.agg #[.int .u16 s, .int .u32 k, .slice A d.length c], .string lb] w fun e w' => e = .returned (.bool true) ∧ Below w.heap.size w w' := by
  have HBd := Lib.hid hB
  have hG := Blk.new w 38 #[.int .u16 s, .int .u32 k, .slice A d.length c]
  have hb0 := (Below.refl w.heap.size w).alloc (Nat.le_refl _) (.cells #[.int .u16 s, .int .u32 k, .slice A d.length c] 38)
  clear hB
  go_enter Try.func7, Try.ntmps7
  go_wp2_with fail
  generalize w.alloc (.cells #[.int .u16 s, .int .u32 k, .slice A d.length c] 38) = w0 at *
  have hlt0 := hG.lt
  have HG := Lib.hid hG
  have Hb0 := Lib.hid hb0
  clear hG hb0
  refine (c8 _).mono ?_
  rintro e w1 ⟨rfl, hb1⟩
  have hs1 := hb1.size
  obtain ⟨m0, m1, m2, _, _, _, mlt⟩ := (HG.out.below hb1 hlt0).three
  go_wp2_with fail
  refine (c15 s k A c d _ ((HBd.out.below Hb0.out (Nat.le_refl _)).below hb1 (Nat.le_refl _)) hl).mono ?_
  rintro e w2 ⟨v2, rfl, _, hb2'⟩
  have hb2 := hb1.trans (hb2'.mono hs1)
  have hs2 := hb2.size
  clear m0 m1 m2 mlt hb1 hb2'
  go_wp2_with fail
  refine (c14_nil s k v2 _).mono ?_
  rintro e w3 ⟨rfl, hb3'⟩
  have hb3 := hb2.trans (hb3'.mono hs2)
  have hs3 := hb3.size
  have hb3a := hb3.alloc hs3 (.cells #[.int .u16 0, .int .u32 0, .slice none 0 0] 29)
  clear hb2 hb3' hb3
  go_wp2_with fail
  refine (c10_nil 1 _ _).mono ?_
  rintro e w4 ⟨rfl, hb4'⟩
  have hb4 := hb3a.trans (hb4'.mono hb3a.size)
  have hs4 := hb4.size
  have hb4a := hb4.alloc hs4 (.cells #[.int .u16 0, .int .u32 0, .slice none 0 0] 29)
  clear hb3a hb4' hb4
  go_wp2_with fail
  refine (c19_nil _ _).mono ?_
  rintro e w5 ⟨rfl, rfl⟩
  go_wp2_with fail
  refine (c9 _).mono ?_
  rintro e w6 ⟨rfl, rfl⟩
  have hk6 := bk_new (w4.alloc (.cells #[.int .u16 0, .int .u32 0, .slice none 0 0] 29)) w0.heap.size hb4a.size
  have hb6 := hb4a.alloc hb4a.size (.cells #[.slice none 0 0] 59)
  simp only [World.size_alloc] at hk6
  obtain ⟨m0, m1, m2, _, _, _, mlt⟩ := (HG.out.below hb6 hlt0).three
  clear hb4a
  go_wp2_with fail
  refine (c10 s ⟨#[120]⟩ _ _ _ _ _ (by show 1 ≤ maxLen; decide) (by simp) hk6).mono ?_
  intro e w7 hp
  obtain ⟨v7, s7, k7, A7, n7, c7', rfl, hk7, hb7, hs7⟩ := BkOpen.use hp (openEE_nil s ⟨#[120]⟩ x_word) hk6 hb6 hb6.size
  rw [if_pos rfl, List.nil_append] at hk7
  obtain ⟨m0, m1, m2, _, _, _, mlt⟩ := (HG.out.below hb7 hlt0).three
  clear hp hk6 hb6
  go_wp2_with fail
  refine (c15 s 53 A c d _ ((HBd.out.below Hb0.out (Nat.le_refl _)).below hb7 (Nat.le_refl _)) hl).mono ?_
  rintro e w8 ⟨v8, rfl, hO8, hb8'⟩
  obtain ⟨A8, c8, rfl⟩ := own_form hO8
  have hb8 := hb7.trans (hb8'.mono hs7)
  have hs8 := hb8.size
  have hk8 := hk7.below hb8' (Nat.le_refl _)
  have hB8 := Byts.of_own hO8
  have hlo8 : ∀ g o, A8 = some ⟨g, o, none⟩ → 0 < d.length → w7.heap.size ≤ g ∧ g < w8.heap.size := by
    rintro g o rfl h0
    exact hO8.lt g rfl
  have hlt7 := hk7.lt
  have hlv7 := hk7.own.lt
  have hb78 := hb8'.size
  have hI : Blk (w8.alloc (.cells #[.int .u16 s, .int .u32 53, .slice A8 d.length c8] 29)) w8.heap.size 29 #[.int .u16 s, .int .u32 53, .slice A8 d.length c8] := Blk.new _ _ _
  have hb8a := hb8.alloc hs8 (.cells #[.int .u16 s, .int .u32 53, .slice A8 d.length c8] 29)
  have hk8a := hk8.below ((Below.refl _ _).alloc (Nat.le_refl _) (.cells #[.int .u16 s, .int .u32 53, .slice A8 d.length c8] 29)) (Nat.le_refl _)
  have hB8a := hB8.alloc (.cells #[.int .u16 s, .int .u32 53, .slice A8 d.length c8] 29)
  have Hlo8 := Lib.hid hlo8
  have Hlv7 := Lib.hid hlv7
  clear hk7 hk8 hB8 hb8' hb7 hO8 hb8 m0 m1 m2 mlt hlo8 hlv7
  go_wp2_with fail
  refine (c14 s 53 A8 c8 d _ _ _ _ _ hk8a (by simp) hB8a hl).mono ?_
  rintro e w9 ⟨v9, A9, c9, hk9, f9, _, rfl, _, _, hO9⟩
  have hO9 := hO9 rfl
  rw [take_own] at hO9 ⊢
  simp only [World.size_alloc] at hO9
  have hR9 := IntRow.of_bytes hO9
  have hI9 := hI.fr f9 (by omega) (fun h => by have := (Hlv7.out _ h).2; omega)
  have hB9 := hB8a.fr f9 (fun g o e h0 => by
    have := Hlo8.out g o e h0
    exact ⟨by omega, fun h => by have := (Hlv7.out _ h).2; omega⟩)
  have hb9 := hb8a.trans (f9.below (B := w0.heap.size) (by omega) (fun k h => (Hlv7.out _ h).1) hb8a.size)
  have hs9 := f9.size
  simp only [World.size_alloc] at hs9
  have HI9 := Lib.hid hI9
  have HB9 := Lib.hid hB9
  have Hb9 := Lib.hid hb9
  have HR9 := Lib.hid hR9
  clear hI hI9 hB9 hb9 hB8a hb8a hk8a hk9 f9 hO9 hR9
  go_wp2_with fail
  go_loopw [61] (fun i wr => ∃ j : Nat, j ≤ d.length ∧ i = .int .i64 j ∧ Blk wr w9.heap.size 29 #[.int .u16 s, .int .u32 53, .slice A9 d.length c9] ∧ IntRow wr (w8.heap.size + 1) (.slice A9 d.length c9) d.length ∧ Below (w8.heap.size + 1) w9 wr) (fun i _ => d.length - (intOf i).toNat)
  case atStart =>
    obtain ⟨xs, h1, h2⟩ := HR9.out
    exact ⟨0, Nat.zero_le _, rfl, Blk.new _ _ _, ⟨xs, h1.alloc _, h2⟩, (Below.refl _ _).alloc (by omega) _⟩
  case round =>
    obtain ⟨j, hj, rfl, hX, hR, hb⟩ := hrel
    have HX := Lib.hid hX
    have HR := Lib.hid hR
    have Hb := Lib.hid hb
    obtain ⟨y0, y1, y2, _, _, _, ylt⟩ := hX.three
    clear hX hR hb
    by_cases hlt : j < d.length
    · obtain ⟨g9, z, rfl, hg9, hc9, hz, hfz, hset, hne⟩ := HR.out.at_ hlt
      have hne9 := hne _ _ _ HX.out (by decide)
      have HS := Lib.hid hset
      clear hset hne
      go_wp2
      go_roundw
      case rel => exact ⟨j + 1, by omega, by go_num, HX.out.setFar (p := ⟨g9, j, none⟩) hne9 _, HS.out _, Hb.out.setCell (p := ⟨g9, j, none⟩) hg9 _⟩
      case measure => simp [intOf]; omega
    · have hbw := Hb9.out.trans (Hb.out.mono (by omega))
      obtain ⟨m0, m1, m2, _, _, _, mlt⟩ := (HG.out.below hbw hlt0).three
      obtain ⟨i0, i1, i2, _, _, _, ilt⟩ := (HI9.out.below Hb.out (by omega)).three
      have hv1 := conv_bytes (w := wr) (A := A8) (bs := d) (fun h0 => by
        obtain ⟨g, o, e, hg, hc⟩ := HB9.out h0
        have h8 := Hlo8.out g o e h0
        refine ⟨g, o, e, by have := Hb.out.size; omega, fun q hq => ?_⟩
        rw [Hb.out.cell (p := ⟨g, o + q, none⟩) (by show g < w8.heap.size + 1; omega)]
        exact hc q hq) c8
      have hv2 := conv_bytes ((HBd.out.below Hb0.out (Nat.le_refl _)).below hbw (Nat.le_refl _)) c
      have HF := Lib.hid (Hb0.out.trans (hbw.mono Hb0.out.size))
      clear hbw
      go_wp2_with fail
      refine (c11_nil _).mono ?_
      rintro e w' ⟨rfl, rfl⟩
      go_wp2
      go_ret
      exact ⟨ret_bool (by simp), HF.out⟩
end Go.Proofs.Ytpfacfolocjidaa
