import Derived.Test.YtpfacfolocjidaaTake
namespace Go.Proofs.Ytpfacfolocjidaa
open Go.RowKit

theorem byts_drew {w : World} {A : Option Addr} {d : List UInt8} (h : Byts w A d) : Byts w.drew A d := h
theorem byts_set3 {w : World} {A : Option Addr} {d : List UInt8} (h : Byts w A d) {g : Nat} (hg : ∀ g' o, A = some ⟨g', o, none⟩ → 0 < d.length → g' < g) (x y z : Value) : Byts (set3 w g x y z) A d := by
  intro h0
  obtain ⟨g', o, rfl, hlt, hc⟩ := h h0
  have hne := hg g' o rfl h0
  refine ⟨g', o, rfl, by simpa [set3, World.setCell] using hlt, fun j hj => ?_⟩
  have e : (set3 w g x y z).heap[g']? = w.heap[g']? := by
    unfold set3
    rw [Below.heap_setCell _ _ _ _ (by simp; omega), Below.heap_setCell _ _ _ _ (by simp; omega), Below.heap_setCell _ _ _ _ (by simp; omega)]
  rw [World.cell?_of_block (w := w) e]
  exact hc j hj

set_option maxHeartbeats 1000000 in
theorem c16_other (s : Int) (A : Option Addr) (c : Nat) (d : List UInt8) (base b : Nat) (v : Value) (cs : List Ch) (w : World) (hk : Bk 68 79 w base b v cs) (_hm : cs.length ≤ 8) (k : Int) (h51 : k ≠ 51) (h53 : k ≠ 53) (h50 : k ≠ 50) :
    Calls Try.prog 16 #[.pointer (some ⟨b, 0, none⟩), .agg #[.int .u16 s, .int .u32 k, .slice A d.length c]] w (TkPost false 68 79 base b v (takeS cs s k d) w) := by
  have HT := Lib.hid (show takeS cs s k d = tkNo 2 cs by simp [takeS, h51, h53, h50])
  have e51 : (k == 51) = false := by simpa using h51
  have e53 : (k == 53) = false := by simpa using h53
  have e50 : (k == 50) = false := by simpa using h50
  have hlt := hk.lt
  have hne := hk.ne_new (g := w.heap.size + 1) (by omega)
  obtain ⟨hG0, hG1, hG2, hB0, hs1⟩ := three_blks (C0 := #[.int .u16 s, .int .u32 k, .slice A d.length c]) (C1 := #[.int .u16 0, .int .u32 0, .slice none 0 0]) (C2 := #[.int .u16 0, .int .u32 0, .slice none 0 0]) (T0 := 38) (T1 := 38) (T2 := 38) (Below.refl _ (((w.alloc (.cells #[.int .u16 s, .int .u32 k, .slice A d.length c] 38)).alloc (.cells #[.int .u16 0, .int .u32 0, .slice none 0 0] 38)).alloc (.cells #[.int .u16 0, .int .u32 0, .slice none 0 0] 38)))
  have hk1 := hk.below hB0 (Nat.le_refl _)
  have HB := Lib.hid hB0
  have P := Lib.hid (TkPost.no (own := false) (e := .returned (.tuple #[.agg #[.int .u16 0, .int .u32 0, .slice none 0 0], .string ⟨#[]⟩, .int .i64 2])) HT.out hk1 (Fr.of_below HB.out b v) (.inl rfl) rfl)
  have HK1 := Lib.hid hk1
  clear hG0 hG1 hG2 hk1 hne hB0
  clear h51 h53 h50 HK1
  go_enter Try.func16, Try.ntmps16
  go_wp2
  exact bodyPost_ret (v := .tuple #[.agg #[.int .u16 0, .int .u32 0, .slice none 0 0], .string ⟨#[]⟩, .int .i64 2]) (by simp [results, Try.results16, go_sem]) rfl P.out

set_option maxHeartbeats 1000000 in
theorem c16_none51 (s : Int) (A : Option Addr) (c : Nat) (d : List UInt8) (base b : Nat) (v : Value) (cs : List Ch) (w : World) (hk : Bk 68 79 w base b v cs) (hm : cs.length ≤ 8) (hi : idx s cs < 0) :
    Calls Try.prog 16 #[.pointer (some ⟨b, 0, none⟩), .agg #[.int .u16 s, .int .u32 51, .slice A d.length c]] w (TkPost false 68 79 base b v (takeS cs s 51 d) w) := by
  have HT := Lib.hid (show takeS cs s 51 d = tkNo 7 cs by simp [takeS, hi])
  have hlt := hk.lt
  have hne := hk.ne_new (g := w.heap.size + 1) (by omega)
  obtain ⟨hG0, hG1, hG2, hB0, hs1⟩ := three_blks (C0 := #[.int .u16 s, .int .u32 51, .slice A d.length c]) (C1 := #[.int .u16 0, .int .u32 0, .slice none 0 0]) (C2 := #[.int .u16 0, .int .u32 0, .slice none 0 0]) (T0 := 38) (T1 := 38) (T2 := 38) (Below.refl _ (((w.alloc (.cells #[.int .u16 s, .int .u32 51, .slice A d.length c] 38)).alloc (.cells #[.int .u16 0, .int .u32 0, .slice none 0 0] 38)).alloc (.cells #[.int .u16 0, .int .u32 0, .slice none 0 0] 38)))
  have hk1 := hk.below hB0 (Nat.le_refl _)
  have HB := Lib.hid hB0
  have P := Lib.hid (TkPost.no (own := false) (e := .returned (.tuple #[.agg #[.int .u16 0, .int .u32 0, .slice none 0 0], .string ⟨#[]⟩, .int .i64 7])) HT.out hk1 (Fr.of_below HB.out b v) (.inl rfl) rfl)
  have HK1 := Lib.hid hk1
  clear hG0 hG1 hG2 hk1 hne hB0
  go_enter Try.func16, Try.ntmps16
  go_wp2_with fail
  refine (c34 s base b v cs _ hm HK1.out).mono ?_
  rintro e w1 ⟨rfl, rfl⟩
  go_wp2
  exact bodyPost_ret (v := .tuple #[.agg #[.int .u16 0, .int .u32 0, .slice none 0 0], .string ⟨#[]⟩, .int .i64 7]) (by simp [results, Try.results16, go_sem]) rfl P.out

set_option maxHeartbeats 1000000 in
theorem c16_none53 (s : Int) (A : Option Addr) (c : Nat) (d : List UInt8) (base b : Nat) (v : Value) (cs : List Ch) (w : World) (hk : Bk 68 79 w base b v cs) (hm : cs.length ≤ 8) (hi : idx s cs < 0) :
    Calls Try.prog 16 #[.pointer (some ⟨b, 0, none⟩), .agg #[.int .u16 s, .int .u32 53, .slice A d.length c]] w (TkPost false 68 79 base b v (takeS cs s 53 d) w) := by
  have HT := Lib.hid (show takeS cs s 53 d = tkNo 7 cs by simp [takeS, hi])
  have hlt := hk.lt
  have hne := hk.ne_new (g := w.heap.size + 1) (by omega)
  obtain ⟨hG0, hG1, hG2, hB0, hs1⟩ := three_blks (C0 := #[.int .u16 s, .int .u32 53, .slice A d.length c]) (C1 := #[.int .u16 0, .int .u32 0, .slice none 0 0]) (C2 := #[.int .u16 0, .int .u32 0, .slice none 0 0]) (T0 := 38) (T1 := 38) (T2 := 38) (Below.refl _ (((w.alloc (.cells #[.int .u16 s, .int .u32 53, .slice A d.length c] 38)).alloc (.cells #[.int .u16 0, .int .u32 0, .slice none 0 0] 38)).alloc (.cells #[.int .u16 0, .int .u32 0, .slice none 0 0] 38)))
  have hk1 := hk.below hB0 (Nat.le_refl _)
  have HB := Lib.hid hB0
  have P := Lib.hid (TkPost.no (own := false) (e := .returned (.tuple #[.agg #[.int .u16 0, .int .u32 0, .slice none 0 0], .string ⟨#[]⟩, .int .i64 7])) HT.out hk1 (Fr.of_below HB.out b v) (.inl rfl) rfl)
  have HK1 := Lib.hid hk1
  clear hG0 hG1 hG2 hk1 hne hB0
  go_enter Try.func16, Try.ntmps16
  go_wp2_with fail
  refine (c34 s base b v cs _ hm HK1.out).mono ?_
  rintro e w1 ⟨rfl, rfl⟩
  go_wp2
  exact bodyPost_ret (v := .tuple #[.agg #[.int .u16 0, .int .u32 0, .slice none 0 0], .string ⟨#[]⟩, .int .i64 7]) (by simp [results, Try.results16, go_sem]) rfl P.out

set_option maxHeartbeats 1000000 in
theorem c16_ack_no (s : Int) (A : Option Addr) (c : Nat) (d : List UInt8) (base b : Nat) (v : Value) (cs : List Ch) (w : World) (hk : Bk 68 79 w base b v cs) (hm : cs.length ≤ 8) (hi : idx s cs < 0) (hB : Byts w A d) (hd : d = [2]) :
    Calls Try.prog 16 #[.pointer (some ⟨b, 0, none⟩), .agg #[.int .u16 s, .int .u32 50, .slice A d.length c]] w (TkPost false 68 79 base b v (takeS cs s 50 d) w) := by
  have HT := Lib.hid (show takeS cs s 50 d = tkNo 7 cs by subst hd; simp [takeS, hi])
  have HBd := Lib.hid hB
  have Hd := Lib.hid hd
  clear hB hd
  have hlt := hk.lt
  have hne := hk.ne_new (g := w.heap.size + 1) (by omega)
  obtain ⟨hG0, hG1, hG2, hB0, hs1⟩ := three_blks (C0 := #[.int .u16 s, .int .u32 50, .slice A d.length c]) (C1 := #[.int .u16 0, .int .u32 0, .slice none 0 0]) (C2 := #[.int .u16 0, .int .u32 0, .slice none 0 0]) (T0 := 38) (T1 := 38) (T2 := 38) (Below.refl _ (((w.alloc (.cells #[.int .u16 s, .int .u32 50, .slice A d.length c] 38)).alloc (.cells #[.int .u16 0, .int .u32 0, .slice none 0 0] 38)).alloc (.cells #[.int .u16 0, .int .u32 0, .slice none 0 0] 38)))
  have hk1 := hk.below hB0 (Nat.le_refl _)
  have HB := Lib.hid hB0
  have P := Lib.hid (TkPost.no (own := false) (e := .returned (.tuple #[.agg #[.int .u16 0, .int .u32 0, .slice none 0 0], .string ⟨#[]⟩, .int .i64 7])) HT.out hk1 (Fr.of_below HB.out b v) (.inl rfl) rfl)
  have hcv := conv_bytes (HBd.out.below HB.out (Nat.le_refl _)) c
  have hq : (d == [2]) = true := by rw [Hd.out]; rfl
  have HK1 := Lib.hid hk1
  clear hG0 hG1 hG2 hk1 hne hB0
  go_enter Try.func16, Try.ntmps16
  go_wp2_with fail
  refine (c34 s base b v cs _ hm HK1.out).mono ?_
  rintro e w1 ⟨rfl, rfl⟩
  clear hcv
  go_wp2
  exact bodyPost_ret (v := .tuple #[.agg #[.int .u16 0, .int .u32 0, .slice none 0 0], .string ⟨#[]⟩, .int .i64 7]) (by simp [results, Try.results16, go_sem]) rfl P.out

set_option maxHeartbeats 1000000 in
theorem c16_ack_ok (s : Int) (A : Option Addr) (c : Nat) (d : List UInt8) (base b : Nat) (v : Value) (cs : List Ch) (w : World) (hk : Bk 68 79 w base b v cs) (hm : cs.length ≤ 8) (hi : ¬ idx s cs < 0) (hB : Byts w A d) (hd : d = [2]) :
    Calls Try.prog 16 #[.pointer (some ⟨b, 0, none⟩), .agg #[.int .u16 s, .int .u32 50, .slice A d.length c]] w (TkPost false 68 79 base b v (takeS cs s 50 d) w) := by
  have HT := Lib.hid (show takeS cs s 50 d = tkNo 0 cs by subst hd; simp [takeS, hi])
  have HBd := Lib.hid hB
  have Hd := Lib.hid hd
  clear hB hd
  have hlow : 0 ≤ idx s cs := by omega
  have hlt := hk.lt
  have hne := hk.ne_new (g := w.heap.size + 1) (by omega)
  obtain ⟨hG0, hG1, hG2, hB0, hs1⟩ := three_blks (C0 := #[.int .u16 s, .int .u32 50, .slice A d.length c]) (C1 := #[.int .u16 0, .int .u32 0, .slice none 0 0]) (C2 := #[.int .u16 0, .int .u32 0, .slice none 0 0]) (T0 := 38) (T1 := 38) (T2 := 38) (Below.refl _ (((w.alloc (.cells #[.int .u16 s, .int .u32 50, .slice A d.length c] 38)).alloc (.cells #[.int .u16 0, .int .u32 0, .slice none 0 0] 38)).alloc (.cells #[.int .u16 0, .int .u32 0, .slice none 0 0] 38)))
  have hk1 := hk.below hB0 (Nat.le_refl _)
  have HB := Lib.hid hB0
  have P := Lib.hid (TkPost.no (own := false) (e := .returned (.tuple #[.agg #[.int .u16 0, .int .u32 0, .slice none 0 0], .string ⟨#[]⟩, .int .i64 0])) HT.out hk1 (Fr.of_below HB.out b v) (.inl rfl) rfl)
  have hcv := conv_bytes (HBd.out.below HB.out (Nat.le_refl _)) c
  have hq : (d == [2]) = true := by rw [Hd.out]; rfl
  have HK1 := Lib.hid hk1
  clear hG0 hG1 hG2 hk1 hne hB0
  go_enter Try.func16, Try.ntmps16
  go_wp2_with fail
  refine (c34 s base b v cs _ hm HK1.out).mono ?_
  rintro e w1 ⟨rfl, rfl⟩
  clear hcv
  go_wp2
  exact bodyPost_ret (v := .tuple #[.agg #[.int .u16 0, .int .u32 0, .slice none 0 0], .string ⟨#[]⟩, .int .i64 0]) (by simp [results, Try.results16, go_sem]) rfl P.out

set_option maxHeartbeats 1000000 in
theorem c16_form (s : Int) (A : Option Addr) (c : Nat) (d : List UInt8) (base b : Nat) (v : Value) (cs : List Ch) (w : World) (hk : Bk 68 79 w base b v cs) (_hm : cs.length ≤ 8) (hB : Byts w A d) (hl : d.length ≤ 140737488351232) (hc : d.length ≤ c) (hd : d ≠ [2]) (hn : labS d = none) :
    Calls Try.prog 16 #[.pointer (some ⟨b, 0, none⟩), .agg #[.int .u16 s, .int .u32 50, .slice A d.length c]] w (TkPost false 68 79 base b v (takeS cs s 50 d) w) := by
  have HT := Lib.hid (show takeS cs s 50 d = tkNo 2 cs by simp [takeS, hd, hn])
  have HBd := Lib.hid hB
  have hd2 : (d == [2]) = false := by simpa using hd
  clear hB hd
  have hlt := hk.lt
  have hne := hk.ne_new (g := w.heap.size + 1) (by omega)
  obtain ⟨hG0, hG1, hG2, hB0, hs1⟩ := three_blks (C0 := #[.int .u16 s, .int .u32 50, .slice A d.length c]) (C1 := #[.int .u16 0, .int .u32 0, .slice none 0 0]) (C2 := #[.int .u16 0, .int .u32 0, .slice none 0 0]) (T0 := 38) (T1 := 38) (T2 := 38) (Below.refl _ (((w.alloc (.cells #[.int .u16 s, .int .u32 50, .slice A d.length c] 38)).alloc (.cells #[.int .u16 0, .int .u32 0, .slice none 0 0] 38)).alloc (.cells #[.int .u16 0, .int .u32 0, .slice none 0 0] 38)))
  have hk1 := hk.below hB0 (Nat.le_refl _)
  have HB := Lib.hid hB0
  have hcv := conv_bytes (HBd.out.below HB.out (Nat.le_refl _)) c
  have HC := Lib.hid (c35 A c d _ (HBd.out.below HB.out (Nat.le_refl _)) hl hc)
  have HG0 := Lib.hid hG0
  have HG1 := Lib.hid hG1
  have HG2 := Lib.hid hG2
  have Hne := Lib.hid hne
  have HK1 := Lib.hid hk1
  clear hG0 hG1 hG2 hk1 hne hB0
  go_enter Try.func16, Try.ntmps16
  go_wp2_with fail
  refine HC.out.mono ?_
  rintro e w3 ⟨x, rfl, hx2, hb3⟩
  have hk3 := HK1.out.below hb3 (Nat.le_refl _)
  have HB3 := Lib.hid (HB.out.trans (hb3.mono HB.out.size))
  have hsz3 := hb3.size
  simp only [World.size_alloc] at hsz3
  clear hcv
  rw [hn]
  obtain ⟨r0, r1, r2, rf0, rf1, rf2, rlt⟩ := (HG1.out.below hb3 (by simp)).three
  obtain ⟨z0, z1, z2, _, _, _, zlt⟩ := (HG2.out.below hb3 (by simp)).three
  have P := Lib.hid (TkPost.no (own := false) (e := .returned (.tuple #[.agg #[.int .u16 0, .int .u32 0, .slice none 0 0], .string ⟨#[]⟩, .int .i64 2])) HT.out (hk3.set3 (g := w.heap.size + 1) (by omega) Hne.out (.int .u16 0) (.int .u32 0) (.slice none 0 0)) ((Fr.of_below HB3.out b v).set3 (by omega) _ _ _) (.inl rfl) rfl)
  clear hk3 hb3 hn hx2
  go_wp2
  exact bodyPost_ret (v := .tuple #[.agg #[.int .u16 0, .int .u32 0, .slice none 0 0], .string ⟨#[]⟩, .int .i64 2]) (by simp [results, Try.results16, go_sem, r0, r1, r2]) rfl P.out

set_option maxHeartbeats 1000000 in
theorem c16_full (s : Int) (A : Option Addr) (c : Nat) (d : List UInt8) (base b : Nat) (v : Value) (cs : List Ch) (w : World) (hk : Bk 68 79 w base b v cs) (hm : cs.length ≤ 8) (hB : Byts w A d) (hl : d.length ≤ 140737488351232) (hc : d.length ≤ c) (hd : d ≠ [2]) (y : ByteArray) (hn : labS d = some y) (hE : openE s y cs ≠ 0) :
    Calls Try.prog 16 #[.pointer (some ⟨b, 0, none⟩), .agg #[.int .u16 s, .int .u32 50, .slice A d.length c]] w (TkPost false 68 79 base b v (takeS cs s 50 d) w) := by
  have HT := Lib.hid (show takeS cs s 50 d = tkNo (openE s y cs) cs by simp [takeS, hd, hn, hE])
  have HE := Lib.hid hE
  have hEb : (openE s y cs == 0) = false := by simpa using hE
  clear hE
  have HBd := Lib.hid hB
  have hd2 : (d == [2]) = false := by simpa using hd
  clear hB hd
  have hlt := hk.lt
  have hne := hk.ne_new (g := w.heap.size + 1) (by omega)
  obtain ⟨hG0, hG1, hG2, hB0, hs1⟩ := three_blks (C0 := #[.int .u16 s, .int .u32 50, .slice A d.length c]) (C1 := #[.int .u16 0, .int .u32 0, .slice none 0 0]) (C2 := #[.int .u16 0, .int .u32 0, .slice none 0 0]) (T0 := 38) (T1 := 38) (T2 := 38) (Below.refl _ (((w.alloc (.cells #[.int .u16 s, .int .u32 50, .slice A d.length c] 38)).alloc (.cells #[.int .u16 0, .int .u32 0, .slice none 0 0] 38)).alloc (.cells #[.int .u16 0, .int .u32 0, .slice none 0 0] 38)))
  have hk1 := hk.below hB0 (Nat.le_refl _)
  have HB := Lib.hid hB0
  have hcv := conv_bytes (HBd.out.below HB.out (Nat.le_refl _)) c
  have HC := Lib.hid (c35 A c d _ (HBd.out.below HB.out (Nat.le_refl _)) hl hc)
  have HG0 := Lib.hid hG0
  have HG1 := Lib.hid hG1
  have HG2 := Lib.hid hG2
  have Hne := Lib.hid hne
  have HK1 := Lib.hid hk1
  clear hG0 hG1 hG2 hk1 hne hB0
  go_enter Try.func16, Try.ntmps16
  go_wp2_with fail
  refine HC.out.mono ?_
  rintro e w3 ⟨x, rfl, hx2, hb3⟩
  have hk3 := HK1.out.below hb3 (Nat.le_refl _)
  have HB3 := Lib.hid (HB.out.trans (hb3.mono HB.out.size))
  have hsz3 := hb3.size
  simp only [World.size_alloc] at hsz3
  clear hcv
  have hxy := hx2 y hn
  subst hxy
  rw [hn]
  obtain ⟨m0, m1, m2, mf0, mf1, mf2, mlt⟩ := ((HG0.out.below hb3 (by simp; omega))).three
  have hG0' := HG0.out.below hb3 (by simp; omega)
  have hG1' := HG1.out.below hb3 (by simp)
  have hG2' := HG2.out.below hb3 (by simp)
  clear hx2 hn hb3
  go_wp2_with fail
  refine (c27 s x base b v cs _ hm hk3).mono ?_
  rintro e w4 ⟨rfl, v', hk4, f, hat⟩
  rw [openC, if_neg HE.out] at hk4
  obtain ⟨r0, r1, r2, rf0, rf1, rf2, rlt⟩ := (hG1'.fr f (by omega) Hne.out).three
  obtain ⟨z0, z1, z2, _, _, _, zlt⟩ := (hG2'.fr f (by omega) (hk.ne_new (by omega))).three
  have hv' : v'.ownBlock ≠ some (w.heap.size + 1) := by
    rcases hat with h | ⟨g, h, hg⟩
    · rw [h]; exact Hne.out
    · rw [h]; simp; omega
  have P := Lib.hid (TkPost.no (own := false) (e := .returned (.tuple #[.agg #[.int .u16 0, .int .u32 0, .slice none 0 0], .string ⟨#[]⟩, .int .i64 (openE s x cs)])) HT.out (hk4.set3 (g := w.heap.size + 1) (by omega) hv' (.int .u16 0) (.int .u32 0) (.slice none 0 0)) ((Fr.after HB3.out f).set3 (by omega) _ _ _) (by
    rcases hat with h | ⟨g, h, hg⟩
    · exact .inl h
    · exact .inr ⟨g, h, by omega⟩) rfl)
  clear hk3 hk4 hG1' hG2' hG0' f hat hv' hk
  go_wp2
  exact bodyPost_ret (v := .tuple #[.agg #[.int .u16 0, .int .u32 0, .slice none 0 0], .string ⟨#[]⟩, .int .i64 (openE s x cs)]) (by simp [results, Try.results16, go_sem, r0, r1, r2]) rfl P.out

set_option maxHeartbeats 1000000 in
theorem c16_open (s : Int) (A : Option Addr) (c : Nat) (d : List UInt8) (base b : Nat) (v : Value) (cs : List Ch) (w : World) (hk : Bk 68 79 w base b v cs) (hm : cs.length ≤ 8) (hB : Byts w A d) (hl : d.length ≤ 140737488351232) (hc : d.length ≤ c) (hd : d ≠ [2]) (y : ByteArray) (hn : labS d = some y) (hE : openE s y cs = 0) :
    Calls Try.prog 16 #[.pointer (some ⟨b, 0, none⟩), .agg #[.int .u16 s, .int .u32 50, .slice A d.length c]] w (TkPost false 68 79 base b v (takeS cs s 50 d) w) := by
  have HT := Lib.hid (show takeS cs s 50 d = ⟨s, 50, [2], ⟨#[]⟩, 0, cs ++ [(s, y)]⟩ by simp [takeS, hd, hn, hE])
  have HE := Lib.hid hE
  have HBd := Lib.hid hB
  have hd2 : (d == [2]) = false := by simpa using hd
  clear hB hd
  have hlt := hk.lt
  have hne := hk.ne_new (g := w.heap.size + 1) (by omega)
  obtain ⟨hG0, hG1, hG2, hB0, hs1⟩ := three_blks (C0 := #[.int .u16 s, .int .u32 50, .slice A d.length c]) (C1 := #[.int .u16 0, .int .u32 0, .slice none 0 0]) (C2 := #[.int .u16 0, .int .u32 0, .slice none 0 0]) (T0 := 38) (T1 := 38) (T2 := 38) (Below.refl _ (((w.alloc (.cells #[.int .u16 s, .int .u32 50, .slice A d.length c] 38)).alloc (.cells #[.int .u16 0, .int .u32 0, .slice none 0 0] 38)).alloc (.cells #[.int .u16 0, .int .u32 0, .slice none 0 0] 38)))
  have hk1 := hk.below hB0 (Nat.le_refl _)
  have HB := Lib.hid hB0
  have hcv := conv_bytes (HBd.out.below HB.out (Nat.le_refl _)) c
  have HC := Lib.hid (c35 A c d _ (HBd.out.below HB.out (Nat.le_refl _)) hl hc)
  have HG0 := Lib.hid hG0
  have HG1 := Lib.hid hG1
  have HG2 := Lib.hid hG2
  have Hne := Lib.hid hne
  have HK1 := Lib.hid hk1
  clear hG0 hG1 hG2 hk1 hne hB0
  go_enter Try.func16, Try.ntmps16
  go_wp2_with fail
  refine HC.out.mono ?_
  rintro e w3 ⟨x, rfl, hx2, hb3⟩
  have hk3 := HK1.out.below hb3 (Nat.le_refl _)
  have HB3 := Lib.hid (HB.out.trans (hb3.mono HB.out.size))
  have hsz3 := hb3.size
  simp only [World.size_alloc] at hsz3
  clear hcv
  have hxy := hx2 y hn
  subst hxy
  rw [hn]
  obtain ⟨m0, m1, m2, mf0, mf1, mf2, mlt⟩ := ((HG0.out.below hb3 (by simp; omega))).three
  have hG0' := HG0.out.below hb3 (by simp; omega)
  have hG1' := HG1.out.below hb3 (by simp)
  have hG2' := HG2.out.below hb3 (by simp)
  clear hx2 hn hb3
  go_wp2_with fail
  refine (c27 s x base b v cs _ hm hk3).mono ?_
  rintro e w4 ⟨rfl, v', hk4, f, hat⟩
  rw [openC, if_pos HE.out] at hk4
  have h1 := hG1'.fr f (by omega) Hne.out
  obtain ⟨r0, r1, r2, rf0, rf1, rf2, rlt⟩ := h1.three
  obtain ⟨q0, q1, q2⟩ := set3_cells (a := .int .u16 s) (b := .int .u32 50) (c := .slice (some ⟨w4.heap.size, 0, none⟩) 1 1) h1 (.cells #[.int .u8 2] 5)
  have Q := Lib.hid (And.intro q0 (And.intro q1 q2))
  clear q0 q1 q2
  obtain ⟨m0, m1, m2, mf0, mf1, mf2, mlt⟩ := (hG0'.fr f (by omega) (hk.ne_new (by omega))).three
  have hv' : v'.ownBlock ≠ some (w.heap.size + 1) := by
    rcases hat with h | ⟨g, h, hg⟩
    · rw [h]; exact Hne.out
    · rw [h]; simp; omega
  have hz4 := f.size
  have P : ∀ e, e = .returned (.tuple #[.agg #[.int .u16 s, .int .u32 50, .slice (some ⟨w4.heap.size, 0, none⟩) 1 1], .string ⟨#[]⟩, .int .i64 0]) → TkPost false 68 79 base b v (takeS cs s 50 d) w e ((set3 w4 (w.heap.size + 1) (.int .u16 s) (.int .u32 50) (.slice (some ⟨w4.heap.size, 0, none⟩) 1 1)).alloc (.cells #[.int .u8 2] 5)) := by
    intro e he
    rw [HT.out]
    have hX : (set3 w4 (w.heap.size + 1) (.int .u16 s) (.int .u32 50) (.slice (some ⟨w4.heap.size, 0, none⟩) 1 1)).heap.size = w4.heap.size := by simp [set3, World.setCell]
    have hOf := own_new (w := set3 w4 (w.heap.size + 1) (.int .u16 s) (.int .u32 50) (.slice (some ⟨w4.heap.size, 0, none⟩) 1 1)) [2] (by simp)
    rw [hX] at hOf
    have hbX : Below (set3 w4 (w.heap.size + 1) (.int .u16 s) (.int .u32 50) (.slice (some ⟨w4.heap.size, 0, none⟩) 1 1)).heap.size (set3 w4 (w.heap.size + 1) (.int .u16 s) (.int .u32 50) (.slice (some ⟨w4.heap.size, 0, none⟩) 1 1)) ((set3 w4 (w.heap.size + 1) (.int .u16 s) (.int .u32 50) (.slice (some ⟨w4.heap.size, 0, none⟩) 1 1)).alloc (.cells #[.int .u8 2] 5)) := (Below.refl _ _).alloc (Nat.le_refl _) _
    refine ⟨v', some ⟨w4.heap.size, 0, none⟩, 1, (hk4.set3 (by omega) hv' _ _ _).below hbX (Nat.le_refl _), ((Fr.after HB3.out f).set3 (by omega) _ _ _).then_ hbX, ?_, he, Byts.of_own hOf, Nat.le_refl _, fun _ => own_mono hOf (by omega)⟩
    rcases hat with h | ⟨g, h, hg⟩
    · exact .inl h
    · exact .inr ⟨g, h, by omega⟩
  have HP := Lib.hid P
  clear P hk3 hk4 hG0' hG1' hG2' f hat hv' hk h1
  go_wp2
  obtain ⟨q0, q1, q2⟩ := Q.out
  exact bodyPost_ret (v := .tuple #[.agg #[.int .u16 s, .int .u32 50, .slice (some ⟨w4.heap.size, 0, none⟩) 1 1], .string ⟨#[]⟩, .int .i64 0]) (by simp [results, Try.results16, go_sem, q0, q1, q2]) rfl (HP.out _ rfl)

set_option maxHeartbeats 1000000 in
theorem c16_has51 (s : Int) (A : Option Addr) (c : Nat) (d : List UInt8) (base b : Nat) (v : Value) (cs : List Ch) (w : World) (hk : Bk 68 79 w base b v cs) (hm : cs.length ≤ 8) (hi : ¬ idx s cs < 0) (hB : Byts w A d) (hc : d.length ≤ c) :
    Calls Try.prog 16 #[.pointer (some ⟨b, 0, none⟩), .agg #[.int .u16 s, .int .u32 51, .slice A d.length c]] w (TkPost false 68 79 base b v (takeS cs s 51 d) w) := by
  obtain ⟨i, hi8, hidx, hla⟩ := idx_at hi
  have HT := Lib.hid (show takeS cs s 51 d = ⟨s, 51, d, cs[i].2, 0, cs⟩ by simp [takeS, hi, hla])
  have hlow : ¬ (i : Int) < 0 := by omega
  have HBd := Lib.hid hB
  have Hidx := Lib.hid hidx
  clear hi hla hB hidx
  have hlt := hk.lt
  have hne := hk.ne_new (g := w.heap.size + 1) (by omega)
  obtain ⟨hG0, hG1, hG2, hB0, hs1⟩ := three_blks (C0 := #[.int .u16 s, .int .u32 51, .slice A d.length c]) (C1 := #[.int .u16 0, .int .u32 0, .slice none 0 0]) (C2 := #[.int .u16 0, .int .u32 0, .slice none 0 0]) (T0 := 38) (T1 := 38) (T2 := 38) (Below.refl _ (((w.alloc (.cells #[.int .u16 s, .int .u32 51, .slice A d.length c] 38)).alloc (.cells #[.int .u16 0, .int .u32 0, .slice none 0 0] 38)).alloc (.cells #[.int .u16 0, .int .u32 0, .slice none 0 0] 38)))
  have hk1 := hk.below hB0 (Nat.le_refl _)
  have HB := Lib.hid hB0
  have HK1 := Lib.hid hk1
  clear hG0 hG1 hG2 hk1 hne hB0
  have hbc := hk.cell
  obtain ⟨AB, capB, rfl, hrow⟩ := hk.form
  obtain ⟨gB, rfl, hgB, hcell⟩ := hrow (by omega)
  obtain ⟨l0, l1⟩ := hcell i hi8
  have hgw : gB < w.heap.size := (hk.own.lt gB rfl).2
  have hgm : gB ≠ w.heap.size := by omega
  have hgr : gB ≠ w.heap.size + 1 := by omega
  have hbm : b ≠ w.heap.size := by omega
  have hbr : b ≠ w.heap.size + 1 := by omega
  have hlt2 : (i : Int) < cs.length := by omega
  have h0i : (0 : Int) ≤ i := by omega
  clear hcell hrow
  have P : ∀ e, e = .returned (.tuple #[.agg #[.int .u16 s, .int .u32 51, .slice A d.length c], .string cs[i].2, .int .i64 0]) → TkPost false 68 79 base b (.slice (some ⟨gB, 0, none⟩) cs.length capB) (takeS cs s 51 d) w e
      (((w.alloc (.cells #[.int .u16 s, .int .u32 51, .slice A d.length c] 38)).alloc (.cells #[.int .u16 s, .int .u32 51, .slice A d.length c] 38)).alloc (.cells #[.int .u16 0, .int .u32 0, .slice none 0 0] 38)).drew := by
    intro e he
    rw [HT.out]
    obtain ⟨_, _, _, hB1, _⟩ := three_blks (C0 := #[.int .u16 s, .int .u32 51, .slice A d.length c]) (C1 := #[.int .u16 s, .int .u32 51, .slice A d.length c]) (C2 := #[.int .u16 0, .int .u32 0, .slice none 0 0]) (T0 := 38) (T1 := 38) (T2 := 38) (Below.refl _ (((w.alloc (.cells #[.int .u16 s, .int .u32 51, .slice A d.length c] 38)).alloc (.cells #[.int .u16 s, .int .u32 51, .slice A d.length c] 38)).alloc (.cells #[.int .u16 0, .int .u32 0, .slice none 0 0] 38)))
    exact ⟨_, A, c, (hk.below hB1 (Nat.le_refl _)).drew, (Fr.of_below hB1 b _).drew, .inl rfl, he, byts_drew (HBd.out.below hB1 (Nat.le_refl _)), hc, fun h => by cases h⟩
  have HP := Lib.hid P
  obtain ⟨_, _, _, hB1, _⟩ := three_blks (C0 := #[.int .u16 s, .int .u32 51, .slice A d.length c]) (C1 := #[.int .u16 s, .int .u32 51, .slice A d.length c]) (C2 := #[.int .u16 0, .int .u32 0, .slice none 0 0]) (T0 := 38) (T1 := 38) (T2 := 38) (Below.refl _ (((w.alloc (.cells #[.int .u16 s, .int .u32 51, .slice A d.length c] 38)).alloc (.cells #[.int .u16 s, .int .u32 51, .slice A d.length c] 38)).alloc (.cells #[.int .u16 0, .int .u32 0, .slice none 0 0] 38)))
  have x1 := (hB1.cell (p := ⟨b, 0, none⟩) hlt).trans hbc
  have x2 := (hB1.cell (p := ⟨gB, i * 2 + 1, none⟩) hgw).trans l1
  have x3 := (HB.out.cell (p := ⟨b, 0, none⟩) hlt).trans hbc
  have x4 := (HB.out.cell (p := ⟨gB, i * 2 + 1, none⟩) hgw).trans l1
  clear P hk hB1 hbc l0 l1
  go_enter Try.func16, Try.ntmps16
  go_wp2_with fail
  refine (c34 s base b _ cs _ hm HK1.out).mono ?_
  rintro e w1 ⟨rfl, rfl⟩
  rw [Hidx.out]
  go_wp2_with fail
  go_region
  go_wp2
  exact bodyPost_ret (v := .tuple #[.agg #[.int .u16 s, .int .u32 51, .slice A d.length c], .string cs[i].2, .int .i64 0]) (by simp [results, Try.results16, go_sem]) rfl (HP.out _ rfl)

set_option maxHeartbeats 1000000 in
theorem c16_has53 (s : Int) (A : Option Addr) (c : Nat) (d : List UInt8) (base b : Nat) (v : Value) (cs : List Ch) (w : World) (hk : Bk 68 79 w base b v cs) (hm : cs.length ≤ 8) (hi : ¬ idx s cs < 0) (hB : Byts w A d) (hc : d.length ≤ c) :
    Calls Try.prog 16 #[.pointer (some ⟨b, 0, none⟩), .agg #[.int .u16 s, .int .u32 53, .slice A d.length c]] w (TkPost false 68 79 base b v (takeS cs s 53 d) w) := by
  obtain ⟨i, hi8, hidx, hla⟩ := idx_at hi
  have HT := Lib.hid (show takeS cs s 53 d = ⟨s, 53, d, cs[i].2, 0, cs⟩ by simp [takeS, hi, hla])
  have hlow : ¬ (i : Int) < 0 := by omega
  have HBd := Lib.hid hB
  have Hidx := Lib.hid hidx
  clear hi hla hB hidx
  have hlt := hk.lt
  have hne := hk.ne_new (g := w.heap.size + 1) (by omega)
  obtain ⟨hG0, hG1, hG2, hB0, hs1⟩ := three_blks (C0 := #[.int .u16 s, .int .u32 53, .slice A d.length c]) (C1 := #[.int .u16 0, .int .u32 0, .slice none 0 0]) (C2 := #[.int .u16 0, .int .u32 0, .slice none 0 0]) (T0 := 38) (T1 := 38) (T2 := 38) (Below.refl _ (((w.alloc (.cells #[.int .u16 s, .int .u32 53, .slice A d.length c] 38)).alloc (.cells #[.int .u16 0, .int .u32 0, .slice none 0 0] 38)).alloc (.cells #[.int .u16 0, .int .u32 0, .slice none 0 0] 38)))
  have hk1 := hk.below hB0 (Nat.le_refl _)
  have HB := Lib.hid hB0
  have HK1 := Lib.hid hk1
  clear hG0 hG1 hG2 hk1 hne hB0
  have hbc := hk.cell
  obtain ⟨AB, capB, rfl, hrow⟩ := hk.form
  obtain ⟨gB, rfl, hgB, hcell⟩ := hrow (by omega)
  obtain ⟨l0, l1⟩ := hcell i hi8
  have hgw : gB < w.heap.size := (hk.own.lt gB rfl).2
  have hgm : gB ≠ w.heap.size := by omega
  have hgr : gB ≠ w.heap.size + 1 := by omega
  have hbm : b ≠ w.heap.size := by omega
  have hbr : b ≠ w.heap.size + 1 := by omega
  have hlt2 : (i : Int) < cs.length := by omega
  have h0i : (0 : Int) ≤ i := by omega
  clear hcell hrow
  have P : ∀ e, e = .returned (.tuple #[.agg #[.int .u16 s, .int .u32 53, .slice A d.length c], .string cs[i].2, .int .i64 0]) → TkPost false 68 79 base b (.slice (some ⟨gB, 0, none⟩) cs.length capB) (takeS cs s 53 d) w e
      (((w.alloc (.cells #[.int .u16 s, .int .u32 53, .slice A d.length c] 38)).alloc (.cells #[.int .u16 s, .int .u32 53, .slice A d.length c] 38)).alloc (.cells #[.int .u16 0, .int .u32 0, .slice none 0 0] 38)).drew := by
    intro e he
    rw [HT.out]
    obtain ⟨_, _, _, hB1, _⟩ := three_blks (C0 := #[.int .u16 s, .int .u32 53, .slice A d.length c]) (C1 := #[.int .u16 s, .int .u32 53, .slice A d.length c]) (C2 := #[.int .u16 0, .int .u32 0, .slice none 0 0]) (T0 := 38) (T1 := 38) (T2 := 38) (Below.refl _ (((w.alloc (.cells #[.int .u16 s, .int .u32 53, .slice A d.length c] 38)).alloc (.cells #[.int .u16 s, .int .u32 53, .slice A d.length c] 38)).alloc (.cells #[.int .u16 0, .int .u32 0, .slice none 0 0] 38)))
    exact ⟨_, A, c, (hk.below hB1 (Nat.le_refl _)).drew, (Fr.of_below hB1 b _).drew, .inl rfl, he, byts_drew (HBd.out.below hB1 (Nat.le_refl _)), hc, fun h => by cases h⟩
  have HP := Lib.hid P
  obtain ⟨_, _, _, hB1, _⟩ := three_blks (C0 := #[.int .u16 s, .int .u32 53, .slice A d.length c]) (C1 := #[.int .u16 s, .int .u32 53, .slice A d.length c]) (C2 := #[.int .u16 0, .int .u32 0, .slice none 0 0]) (T0 := 38) (T1 := 38) (T2 := 38) (Below.refl _ (((w.alloc (.cells #[.int .u16 s, .int .u32 53, .slice A d.length c] 38)).alloc (.cells #[.int .u16 s, .int .u32 53, .slice A d.length c] 38)).alloc (.cells #[.int .u16 0, .int .u32 0, .slice none 0 0] 38)))
  have x1 := (hB1.cell (p := ⟨b, 0, none⟩) hlt).trans hbc
  have x2 := (hB1.cell (p := ⟨gB, i * 2 + 1, none⟩) hgw).trans l1
  have x3 := (HB.out.cell (p := ⟨b, 0, none⟩) hlt).trans hbc
  have x4 := (HB.out.cell (p := ⟨gB, i * 2 + 1, none⟩) hgw).trans l1
  clear P hk hB1 hbc l0 l1
  go_enter Try.func16, Try.ntmps16
  go_wp2_with fail
  refine (c34 s base b _ cs _ hm HK1.out).mono ?_
  rintro e w1 ⟨rfl, rfl⟩
  rw [Hidx.out]
  go_wp2_with fail
  go_region
  go_wp2
  exact bodyPost_ret (v := .tuple #[.agg #[.int .u16 s, .int .u32 53, .slice A d.length c], .string cs[i].2, .int .i64 0]) (by simp [results, Try.results16, go_sem]) rfl (HP.out _ rfl)

theorem c16 (s k : Int) (A : Option Addr) (c : Nat) (d : List UInt8) (base b : Nat) (v : Value) (cs : List Ch) (w : World) (hk : Bk 68 79 w base b v cs) (hm : cs.length ≤ 8) (hB : Byts w A d) (hl : d.length ≤ 140737488351232) (hc : d.length ≤ c) :
    Calls Try.prog 16 #[.pointer (some ⟨b, 0, none⟩), .agg #[.int .u16 s, .int .u32 k, .slice A d.length c]] w (TkPost false 68 79 base b v (takeS cs s k d) w) := by
  by_cases h51 : k = 51
  · subst h51
    by_cases hi : idx s cs < 0
    · exact c16_none51 s A c d base b v cs w hk hm hi
    · exact c16_has51 s A c d base b v cs w hk hm hi hB hc
  · by_cases h53 : k = 53
    · subst h53
      by_cases hi : idx s cs < 0
      · exact c16_none53 s A c d base b v cs w hk hm hi
      · exact c16_has53 s A c d base b v cs w hk hm hi hB hc
    · by_cases h50 : k = 50
      · subst h50
        by_cases hd : d = [2]
        · by_cases hi : idx s cs < 0
          · exact c16_ack_no s A c d base b v cs w hk hm hi hB hd
          · exact c16_ack_ok s A c d base b v cs w hk hm hi hB hd
        · cases hn : labS d with
          | none => exact c16_form s A c d base b v cs w hk hm hB hl hc hd hn
          | some y =>
            by_cases hE : openE s y cs = 0
            · exact c16_open s A c d base b v cs w hk hm hB hl hc hd y hn hE
            · exact c16_full s A c d base b v cs w hk hm hB hl hc hd y hn hE
      · exact c16_other s A c d base b v cs w hk hm k h51 h53 h50
end Go.Proofs.Ytpfacfolocjidaa
