import Derived.Test.YtpfacfolocjidaaPl
namespace Go.Proofs.Ytpfacfolocjidaa
open Go.RowKit

theorem bk_new2 (w : World) (base : Nat) (h : base ≤ w.heap.size) : Bk 68 79 (w.alloc (.cells #[.slice none 0 0] 68)) base w.heap.size (.slice none 0 0) [] := ⟨heap_alloc_new _ _, h, World.ownsRow_nil _ _ _ _⟩
/-- what a round keeps -/
structure Two (w0 w : World) (bB bW : Nat) (cs : List Ch) : Prop where
  b : ∃ v, Bk 59 74 w w0.heap.size bB v cs
  r : ∃ v, Bk 68 79 w w0.heap.size bW v cs
  hm : cs.length ≤ 8
  hb : Below w0.heap.size w0 w
theorem Two.below {w0 w w' : World} {bB bW : Nat} {cs : List Ch} (h : Two w0 w bB bW cs) (hb : Below w.heap.size w w') : Two w0 w' bB bW cs := by
  obtain ⟨⟨v, h1⟩, ⟨v2, h2⟩, h3, h4⟩ := h
  exact ⟨⟨v, h1.below hb (Nat.le_refl _)⟩, ⟨v2, h2.below hb (Nat.le_refl _)⟩, h3, h4.trans (hb.mono h4.size)⟩
theorem Two.alloc {w0 w : World} {bB bW : Nat} {cs : List Ch} (h : Two w0 w bB bW cs) (o : Obj) : Two w0 (w.alloc o) bB bW cs := h.below ((Below.refl _ _).alloc (Nat.le_refl _) _)

theorem Blk.five {w : World} {g t : Nat} {a b c d e : Value} (h : Blk w g t #[a, b, c, d, e]) : w.cell? ⟨g, 0, none⟩ = some a ∧ w.cell? ⟨g, 1, none⟩ = some b ∧ w.cell? ⟨g, 2, none⟩ = some c ∧ w.cell? ⟨g, 3, none⟩ = some d ∧ w.cell? ⟨g, 4, none⟩ = some e ∧ g < w.heap.size :=
  ⟨h.cell 0, h.cell 1, h.cell 2, h.cell 3, h.cell 4, h.lt⟩
def Got (w w' : World) (A : Option Addr) (ds : List UInt8) : Prop := Byts w' A ds ∧ ∀ g o, A = some ⟨g, o, none⟩ → 0 < ds.length → w.heap.size ≤ g
theorem BkOpen.get {T E base b : Nat} {v : Value} {cs : List Ch} {s : Int} {x : ByteArray} {w w' : World} {e : Ending} (hp : BkOpen T E base b v cs s x w e w') {S K n : Int} {ds : List UInt8} {cs' : List Ch}
    (hS : S = if openEE s x cs = 0 then s else 0) (hK : K = if openEE s x cs = 0 then 50 else 0) (hn : n = openEE s x cs) (hd : ds = if openEE s x cs = 0 then openD x else []) (hc : cs' = if openEE s x cs = 0 then cs ++ [(s, x)] else cs) :
    ∃ v' A c, Bk T E w' base b v' cs' ∧ Fr w w' b v ∧ e = .returned (.tuple #[.agg #[.int .u16 S, .int .u32 K, .slice A ds.length c], .int .i64 n]) ∧ Got w w' A ds := by
  obtain ⟨v', D, h1, h2, _, h4, h5⟩ := hp
  rw [← hS, ← hK, ← hn] at h4
  rw [← hd] at h5
  rw [← hc] at h1
  obtain ⟨A, c, rfl⟩ := own_form h5
  refine ⟨v', A, c, h1, h2, h4, Byts.of_own h5, ?_⟩
  rintro g o rfl _
  exact (h5.lt g rfl).1
theorem TkPost.get {own : Bool} {T E base b : Nat} {v : Value} {t : TK} {w w' : World} {e : Ending} (hp : TkPost own T E base b v t w e w') :
    ∃ v' A c, Bk T E w' base b v' t.cs ∧ Fr w w' b v ∧ e = .returned (.tuple #[.agg #[.int .u16 t.s, .int .u32 t.k, .slice A t.d.length c], .string t.l, .int .i64 t.e]) ∧ Byts w' A t.d ∧ (own = true → Got w w' A t.d) := by
  obtain ⟨v', A, c, h1, h2, _, h4, h5, _, h7⟩ := hp
  refine ⟨v', A, c, h1, h2, h4, h5, fun ho => ⟨h5, ?_⟩⟩
  rintro g o rfl _
  exact ((h7 ho).lt g rfl).1
theorem Byts.ne3 {w : World} {A : Option Addr} {d : List UInt8} {p T : Nat} {a b : Int} {x : Option Addr} {n c : Nat} (h : Byts w A d) (hk : Blk w p T #[.int .u16 a, .int .u32 b, .slice x n c]) : ∀ g o, A = some ⟨g, o, none⟩ → 0 < d.length → g ≠ p := by
  rintro g o rfl h0 rfl
  obtain ⟨g', o', e, _, hc⟩ := h h0
  injection e with e
  injection e with e1 e2
  subst e1 e2
  have := hc 0 h0
  rw [hk.cell] at this
  match o, this with
  | 0, this => simp at this
  | 1, this => simp at this
  | 2, this => simp at this
  | o + 3, this => simp at this
/-- the two answers of a round, where they lie, and the books behind them -/
structure Both (w0 w : World) (bB bW xb yb ob : Nat) (cs : List Ch) (S K : Int) (ds : List UInt8) (A1 A2 : Option Addr) (c1 c2 : Nat) (oc : Array Value) : Prop where
  two : Two w0 w bB bW cs
  x : Blk w xb 29 #[.int .u16 S, .int .u32 K, .slice A1 ds.length c1]
  y : Blk w yb 38 #[.int .u16 S, .int .u32 K, .slice A2 ds.length c2]
  o : Blk w ob 40 oc
  b1 : Byts w A1 ds
  b2 : Byts w A2 ds
theorem three_new {w : World} {C0 C1 C2 : Array Value} {T0 T1 T2 : TypeId} : ∃ W, W = (((w.alloc (.cells C0 T0)).alloc (.cells C1 T1)).alloc (.cells C2 T2)) ∧ Blk W w.heap.size T0 C0 ∧ Blk W (w.heap.size + 1) T1 C1 ∧ Blk W (w.heap.size + 1 + 1) T2 C2 ∧ Below w.heap.size w W ∧ w.heap.size + 1 + 1 + 1 = W.heap.size := by
  obtain ⟨h0, h1, h2, h3, _⟩ := three_blks (Below.refl _ (((w.alloc (.cells C0 T0)).alloc (.cells C1 T1)).alloc (.cells C2 T2)))
  exact ⟨_, rfl, h0, h1, h2, h3, by simp⟩

set_option maxHeartbeats 4000000 in
set_option maxRecDepth 100000 in
theorem c4 (A : Option Addr) (c : Nat) (xs : List OpD) (lb : ByteArray) (w : World) (hX : OpsAt w A xs) (hl : xs.length ≤ 140737488351232) :
    Calls Try.prog 4 #[.slice A xs.length c, .string lb] w fun e w' => e = .returned (.bool true) ∧ Below w.heap.size w w' := by
  go_enter Try.func4, Try.ntmps4
  go_wp2_with fail
  refine (c8 _).mono ?_
  rintro e w1 ⟨rfl, hb1⟩
  go_wp2_with fail
  refine (c9 _).mono ?_
  rintro e w2 ⟨rfl, rfl⟩
  have hk2 := bk_new w1 w.heap.size hb1.size
  have hb2 := hb1.alloc hb1.size (.cells #[.slice none 0 0] 59)
  go_wp2_with fail
  refine (c12 _).mono ?_
  rintro e w3 ⟨rfl, rfl⟩
  have hk3 := bk_new2 (w1.alloc (.cells #[.slice none 0 0] 59)) w.heap.size hb2.size
  simp only [World.size_alloc] at hk3
  have hT : Two w ((w1.alloc (.cells #[.slice none 0 0] 59)).alloc (.cells #[.slice none 0 0] 68)) w1.heap.size (w1.heap.size + 1) [] :=
    ⟨⟨_, hk2.below ((Below.refl _ _).alloc (Nat.le_refl _) _) (Nat.le_refl _)⟩, ⟨_, hk3⟩, by simp, hb2.alloc hb2.size _⟩
  have HT := Lib.hid hT
  have HX := Lib.hid hX
  clear hT hk2 hk3 hb2 hb1 hX
  go_wp2_with fail
  go_loopw [29] (fun i wr => ∃ j : Nat, j ≤ xs.length ∧ i = .int .i64 j ∧ ∃ cs, Two w wr w1.heap.size (w1.heap.size + 1) cs) (fun i _ => xs.length - (intOf i).toNat)
  case atStart => exact ⟨0, Nat.zero_le _, rfl, [], HT.out⟩
  case round =>
    obtain ⟨j, hj, rfl, cs, hTr⟩ := hrel
    have HR := Lib.hid hTr
    have hm := hTr.hm
    have hsz := hTr.hb.size
    clear hTr
    by_cases hlt : j < xs.length
    · obtain ⟨g, o, rfl, hg, hops⟩ := HX.out (by omega)
      have hop := (hops j hlt).below (w' := wr) (HR.out.hb) hg
      have hB0 := (hops j hlt).2.2.2.2.2.1
      clear hops
      obtain ⟨⟨xo, xl, xs1, xk, xA, xc, xd⟩, hxe⟩ : ∃ x, x = xs[j] := ⟨_, rfl⟩
      rw [← hxe] at hop hB0
      clear hxe
      obtain ⟨h0, h1, h2, h3, h4, hB, hcap, hdl, hls⟩ := hop
      simp only at h0 h1 h2 h3 h4 hB hcap hdl hls hB0
      have HB0 := Lib.hid hB0
      clear hB hB0
      obtain ⟨W3, hW3, hO3, hx3, hy3, hb3, hs3⟩ := three_new (w := wr) (C0 := #[.bool xo, .string xl, .int .u16 xs1, .int .u32 xk, .slice xA xd.length xc]) (C1 := #[.int .u16 0, .int .u32 0, .slice none 0 0]) (C2 := #[.int .u16 0, .int .u32 0, .slice none 0 0]) (T0 := 40) (T1 := 29) (T2 := 38)
      obtain ⟨⟨vB, hkB0⟩, ⟨vW, hkW0⟩, _, hbr⟩ := HR.out
      have hkB := hkB0.below hb3 (Nat.le_refl _)
      have hkW := hkW0.below hb3 (Nat.le_refl _)
      have hbB := hkB0.lt
      have hbW := hkW0.lt
      have hnB : ∀ g, wr.heap.size ≤ g → vB.ownBlock ≠ some g := fun g hg => hkB0.ne_new hg
      have hnW : ∀ g, wr.heap.size ≤ g → vW.ownBlock ≠ some g := fun g hg => hkW0.ne_new hg
      have hb03 := hbr.trans (hb3.mono hsz)
      have HnB := Lib.hid hnB
      have HnW := Lib.hid hnW
      have HWn := Lib.hid hW3
      clear hkB0 hkW0 hb3 hW3 hnB hnW hbr
      cases xo with
      | true =>
        go_wp2_with fail
        rw [← HWn.out]
        obtain ⟨S, hS⟩ : ∃ S, S = if openEE xs1 xl cs = 0 then xs1 else 0 := ⟨_, rfl⟩
        obtain ⟨K, hK⟩ : ∃ K : Int, K = if openEE xs1 xl cs = 0 then 50 else 0 := ⟨_, rfl⟩
        obtain ⟨n, hn⟩ : ∃ n, n = openEE xs1 xl cs := ⟨_, rfl⟩
        obtain ⟨ds, hds⟩ : ∃ ds, ds = if openEE xs1 xl cs = 0 then openD xl else [] := ⟨_, rfl⟩
        obtain ⟨cs', hcs⟩ : ∃ cs', cs' = if openEE xs1 xl cs = 0 then cs ++ [(xs1, xl)] else cs := ⟨_, rfl⟩
        have hm' : cs'.length ≤ 8 := by rw [hcs]; exact openEE_len xs1 xl hm
        have HE := Lib.hid (And.intro hS (And.intro hK (And.intro hn (And.intro hds hcs))))
        clear hS hK hn hds hcs
        refine (c10 xs1 xl _ _ _ cs W3 hls hm hkB).mono ?_
        intro e w4 hp
        obtain ⟨vB', A1, d1, hkB4, fB, rfl, hG1, hG1'⟩ := hp.get HE.out.1 HE.out.2.1 HE.out.2.2.1 HE.out.2.2.2.1 HE.out.2.2.2.2
        have hf4 := fB.size
        have hb4 := Below.fr hb03 hkB fB
        have hkW4 := hkW.other hkB fB (by decide) (by decide) (by decide) (by decide)
        have hx4 := hx3.fr fB (by omega) (HnB.out _ (by omega))
        have hy4 := hy3.fr fB (by omega) (HnB.out _ (by omega))
        have hO4 := hO3.fr fB (by omega) (HnB.out _ (by omega))
        obtain ⟨x0, x1, x2, xf0, xf1, xf2, xlt⟩ := hx4.three
        have hOs := hO4.far3 (g' := wr.heap.size + 1) (by omega) (.int .u16 S) (.int .u32 K) (.slice A1 ds.length d1)
        have hO4' : Blk w4 wr.heap.size 40 #[.bool true, .string xl, .int .u16 xs1, .int .u32 xk, .slice xA xd.length xc] := hO4
        obtain ⟨o0, o1, o2, o3, o4, olt⟩ := hO4'.five
        have hkWs := hkW4.set3 (g := wr.heap.size + 1) (by omega) (HnW.out _ (by omega)) (.int .u16 S) (.int .u32 K) (.slice A1 ds.length d1)
        have hkBs := hkB4.set3 (g := wr.heap.size + 1) (by omega) (own_ne_blk hkB4.own hx4 (by decide)) (.int .u16 S) (.int .u32 K) (.slice A1 ds.length d1)
        have hxs := hx4.put3 (.int .u16 S) (.int .u32 K) (.slice A1 ds.length d1)
        have hys := hy4.far3 (g' := wr.heap.size + 1) (by omega) (.int .u16 S) (.int .u32 K) (.slice A1 ds.length d1)
        have hGs := hG1.put3 (g := wr.heap.size + 1) (fun g o e h0 => by have := hG1' g o e h0; omega) (.int .u16 S) (.int .u32 K) (.slice A1 ds.length d1)
        have hbs := Below.put3 hb4 (g := wr.heap.size + 1) (by omega) (.int .u16 S) (.int .u32 K) (.slice A1 ds.length d1)
        have hss : (set3 w4 (wr.heap.size + 1) (.int .u16 S) (.int .u32 K) (.slice A1 ds.length d1)).heap.size = w4.heap.size := by simp [set3, World.setCell]
        have K1 := Lib.hid (And.intro hkWs (And.intro hkBs (And.intro hxs (And.intro hys (And.intro hGs (And.intro hbs (And.intro hOs (And.intro hss hG1'))))))))
        clear hkWs hkBs hxs hys hGs hbs hOs hss hG1' hp hkB4 fB hG1 hb4 hkW4 hx4 hy4 hO4 hO4' hkB hkW hb03 hx3 hy3 hO3
        go_wp2_with fail
        obtain ⟨hkWs, hkBs, hxs, hys, hGs, hbs, hOs, hss, hG1'⟩ := K1.out
        refine (c13 xs1 xl _ _ _ cs _ hls hm hkWs).mono ?_
        intro e w5 hp
        obtain ⟨vW', A2, d2, hkW5, fW, rfl, hG2, hG2'⟩ := hp.get HE.out.1 HE.out.2.1 HE.out.2.2.1 HE.out.2.2.2.1 HE.out.2.2.2.2
        have hf5 := fW.size
        rw [hss] at hf5 hG2'
        have hb5 := Below.fr hbs hkWs fW
        have hkB5 := hkBs.other hkWs fW (by decide) (by decide) (by decide) (by decide)
        have hx5 := hxs.fr fW (by omega) (HnW.out _ (by omega))
        have hy5 := hys.fr fW (by omega) (HnW.out _ (by omega))
        have hO5 := hOs.fr fW (by omega) (HnW.out _ (by omega))
        have hG5 := hGs.fr fW (fun g o e h0 => by
          have := hG1' g o e h0
          exact ⟨by omega, HnW.out g (by omega)⟩)
        obtain ⟨y0, y1, y2, yf0, yf1, yf2, ylt⟩ := hy5.three
        obtain ⟨X0, X1, X2, _, _, _, Xlt⟩ := hx5.three
        have hZ : Both w (set3 w5 (wr.heap.size + 1 + 1) (.int .u16 S) (.int .u32 K) (.slice A2 ds.length d2)) w1.heap.size (w1.heap.size + 1) (wr.heap.size + 1) (wr.heap.size + 1 + 1) wr.heap.size cs' S K ds A1 A2 d1 d2 #[.bool true, .string xl, .int .u16 xs1, .int .u32 xk, .slice xA xd.length xc] :=
          ⟨⟨⟨_, hkB5.set3 (by omega) (own_ne_blk hkB5.own hy5 (by decide)) _ _ _⟩, ⟨_, hkW5.set3 (by omega) (own_ne_blk hkW5.own hy5 (by decide)) _ _ _⟩, hm', Below.put3 hb5 (by omega) _ _ _⟩, hx5.far3 (by omega) _ _ _, hy5.put3 _ _ _, hO5.far3 (by omega) _ _ _,
            hG5.put3 (fun g o e h0 => by have := hG1' g o e h0; omega) _ _ _, hG2.put3 (fun g o e h0 => by have := hG2' g o e h0; omega) _ _ _⟩
        have HZ := Lib.hid hZ
        clear hZ hkWs hkBs hxs hys hGs hbs hOs hss hG1' hp hkW5 fW hG2 hG2' hb5 hkB5 hx5 hy5 hO5 hG5 x0 x1 x2 xf0 xf1 xf2 xlt o0 o1 o2 o3 o4 olt
        go_wp2_with fail
        refine (c17 S K S K A1 A2 _ _ ds ds _ HZ.out.b1 HZ.out.b2 rfl rfl rfl).mono ?_
        rintro e w6 ⟨rfl, hb6⟩
        have hT6 := HZ.out.two.below hb6
        have hO6 := HZ.out.o.below hb6 HZ.out.o.lt
        obtain ⟨o0, o1, o2, o3, o4, olt⟩ := hO6.five
        obtain ⟨⟨vB6, hB6⟩, ⟨vW6, hW6⟩, _, _⟩ := hT6
        have hsz6 := hb6.size
        have hm8 : ¬ (8 : Int) < cs'.length := by omega
        have Hb6 := Lib.hid hb6
        clear hb6 X0 X1 X2 Xlt y0 y1 y2 yf0 yf1 yf2 ylt
        go_wp2_with fail
        refine (c11 _ _ _ cs' w6 hB6).mono ?_
        rintro e w' ⟨rfl, rfl⟩
        go_wp2_with fail
        refine (c18 _ _ _ cs' w6 hW6).mono ?_
        rintro e w' ⟨rfl, rfl⟩
        go_wp2_with fail
        refine (c11 _ _ _ cs' w6 hB6).mono ?_
        rintro e w' ⟨rfl, rfl⟩
        go_wp2_with fail
        refine (c19 xl _ _ _ cs' w6 hm' hB6).mono ?_
        rintro e w7 ⟨rfl, hb7⟩
        have hW7 := hW6.below hb7 (Nat.le_refl _)
        obtain ⟨o0, o1, o2, o3, o4, olt⟩ := (hO6.below hb7 hO6.lt).five
        go_wp2_with fail
        refine (c20 xl _ _ _ cs' w7 hm' hW7).mono ?_
        rintro e w8 ⟨rfl, hb8⟩
        have hT8 := Lib.hid (((HZ.out.two.below Hb6.out).below hb7).below hb8)
        have HS8 := hb8.size
        clear hb8 hb7 hO6 hW7 hB6 hW6 o0 o1 o2 o3 o4 olt hm8 hm'
        go_wp2
        go_roundw
        case rel => exact ⟨j + 1, by omega, by go_num, cs', hT8.out⟩
        case measure => simp [intOf]; omega
      | false =>
        go_wp2_with fail
        rw [← HWn.out]
        obtain ⟨t, ht⟩ : ∃ t, t = takeS cs xs1 xk xd := ⟨_, rfl⟩
        have hm' : t.cs.length ≤ 8 := by rw [ht]; exact takeS_len xs1 xk xd hm
        have Ht := Lib.hid ht
        clear ht
        refine (c15 xs1 xk xA xc xd W3 (HB0.out.below hb03 (Nat.le_refl _)) hdl).mono ?_
        rintro e w4 ⟨v4, rfl, hD4, hb4⟩
        obtain ⟨A4, c4, rfl⟩ := own_form hD4
        have hb04 := hb03.trans (hb4.mono hb03.size)
        have hkB4 := hkB.below hb4 (Nat.le_refl _)
        have hkW4 := hkW.below hb4 (Nat.le_refl _)
        have hx4 := hx3.below hb4 hx3.lt
        have hy4 := hy3.below hb4 hy3.lt
        have hO4 := hO3.below hb4 hO3.lt
        have hf4 := hb4.size
        have hB4 := Byts.of_own hD4
        clear hb4 hkB hkW hx3 hy3 hO3 hD4 hb03
        go_wp2_with fail
        refine (c14 xs1 xk A4 c4 xd _ _ _ cs w4 hkB4 hm hB4 hdl).mono ?_
        intro e w5 hp
        rw [← Ht.out] at hp
        obtain ⟨vB', A1, d1, hkB5, fB, rfl, hG1, hG1o⟩ := hp.get
        have hG1' := (hG1o rfl).2
        obtain ⟨S, K, ds, l, n, cs'⟩ := t
        have hf5 := fB.size
        have hb5 := Below.fr hb04 hkB4 fB
        have hkW5 := hkW4.other hkB4 fB (by decide) (by decide) (by decide) (by decide)
        have hx5 := hx4.fr fB (by omega) (HnB.out _ (by omega))
        have hy5 := hy4.fr fB (by omega) (HnB.out _ (by omega))
        have hO5 := hO4.fr fB (by omega) (HnB.out _ (by omega))
        obtain ⟨x0, x1, x2, xf0, xf1, xf2, xlt⟩ := hx5.three
        have hO5' : Blk w5 wr.heap.size 40 #[.bool false, .string xl, .int .u16 xs1, .int .u32 xk, .slice xA xd.length xc] := hO5
        obtain ⟨o0, o1, o2, o3, o4, olt⟩ := hO5'.five
        have hOs := hO5.far3 (g' := wr.heap.size + 1) (by omega) (.int .u16 S) (.int .u32 K) (.slice A1 ds.length d1)
        have hkWs := hkW5.set3 (g := wr.heap.size + 1) (by omega) (HnW.out _ (by omega)) (.int .u16 S) (.int .u32 K) (.slice A1 ds.length d1)
        have hkBs := hkB5.set3 (g := wr.heap.size + 1) (by omega) (own_ne_blk hkB5.own hx5 (by decide)) (.int .u16 S) (.int .u32 K) (.slice A1 ds.length d1)
        have hxs := hx5.put3 (.int .u16 S) (.int .u32 K) (.slice A1 ds.length d1)
        have hys := hy5.far3 (g' := wr.heap.size + 1) (by omega) (.int .u16 S) (.int .u32 K) (.slice A1 ds.length d1)
        have hGs := hG1.put3 (g := wr.heap.size + 1) (fun g o e h0 => by have := hG1' g o e h0; omega) (.int .u16 S) (.int .u32 K) (.slice A1 ds.length d1)
        have hbs := Below.put3 hb5 (g := wr.heap.size + 1) (by omega) (.int .u16 S) (.int .u32 K) (.slice A1 ds.length d1)
        have hss : (set3 w5 (wr.heap.size + 1) (.int .u16 S) (.int .u32 K) (.slice A1 ds.length d1)).heap.size = w5.heap.size := by simp [set3, World.setCell]
        have K1 := Lib.hid (And.intro hkWs (And.intro hkBs (And.intro hxs (And.intro hys (And.intro hGs (And.intro hbs (And.intro hOs (And.intro hss hG1'))))))))
        clear hkWs hkBs hxs hys hGs hbs hOs hss hG1' hG1o hp hkB5 fB hG1 hb5 hkW5 hx5 hy5 hO5 hO5' hkB4 hkW4 hb04 hx4 hy4 hO4 hB4
        go_wp2_with fail
        obtain ⟨hkWs, hkBs, hxs, hys, hGs, hbs, hOs, hss, hG1'⟩ := K1.out
        refine (c16 xs1 xk xA xc xd _ _ _ cs _ hkWs hm (HB0.out.below hbs (Nat.le_refl _)) hdl hcap).mono ?_
        intro e w6 hp
        rw [← Ht.out] at hp
        obtain ⟨vW', A2, d2, hkW6, fW, rfl, hG2, _⟩ := hp.get
        have hf6 := fW.size
        rw [hss] at hf6
        have hb6 := Below.fr hbs hkWs fW
        have hkB6 := hkBs.other hkWs fW (by decide) (by decide) (by decide) (by decide)
        have hx6 := hxs.fr fW (by omega) (HnW.out _ (by omega))
        have hy6 := hys.fr fW (by omega) (HnW.out _ (by omega))
        have hO6 := hOs.fr fW (by omega) (HnW.out _ (by omega))
        have hG6 := hGs.fr fW (fun g o e h0 => by
          have := hG1' g o e h0
          exact ⟨by omega, HnW.out g (by omega)⟩)
        obtain ⟨y0, y1, y2, yf0, yf1, yf2, ylt⟩ := hy6.three
        obtain ⟨X0, X1, X2, _, _, _, Xlt⟩ := hx6.three
        have hZ : Both w (set3 w6 (wr.heap.size + 1 + 1) (.int .u16 S) (.int .u32 K) (.slice A2 ds.length d2)) w1.heap.size (w1.heap.size + 1) (wr.heap.size + 1) (wr.heap.size + 1 + 1) wr.heap.size cs' S K ds A1 A2 d1 d2 #[.bool false, .string xl, .int .u16 xs1, .int .u32 xk, .slice xA xd.length xc] :=
          ⟨⟨⟨_, hkB6.set3 (by omega) (own_ne_blk hkB6.own hy6 (by decide)) _ _ _⟩, ⟨_, hkW6.set3 (by omega) (own_ne_blk hkW6.own hy6 (by decide)) _ _ _⟩, hm', Below.put3 hb6 (by omega) _ _ _⟩, hx6.far3 (by omega) _ _ _, hy6.put3 _ _ _, hO6.far3 (by omega) _ _ _,
            hG6.put3 (fun g o e h0 => by have := hG1' g o e h0; omega) _ _ _, hG2.put3 (hG2.ne3 hy6) _ _ _⟩
        have HZ := Lib.hid hZ
        clear hZ hkWs hkBs hxs hys hGs hbs hOs hss hG1' hp hkW6 fW hG2 hb6 hkB6 hx6 hy6 hO6 hG6 x0 x1 x2 xf0 xf1 xf2 xlt o0 o1 o2 o3 o4 olt
        have hm' : cs'.length ≤ 8 := hm'
        go_wp2_with fail
        refine (c17 S K S K A1 A2 _ _ ds ds _ HZ.out.b1 HZ.out.b2 rfl rfl rfl).mono ?_
        rintro e w6 ⟨rfl, hb6⟩
        have hT6 := HZ.out.two.below hb6
        have hO6 := HZ.out.o.below hb6 HZ.out.o.lt
        obtain ⟨o0, o1, o2, o3, o4, olt⟩ := hO6.five
        obtain ⟨⟨vB6, hB6⟩, ⟨vW6, hW6⟩, _, _⟩ := hT6
        have hsz6 := hb6.size
        have hm8 : ¬ (8 : Int) < cs'.length := by omega
        have Hb6 := Lib.hid hb6
        clear hb6 X0 X1 X2 Xlt y0 y1 y2 yf0 yf1 yf2 ylt
        go_wp2_with fail
        refine (c11 _ _ _ cs' w6 hB6).mono ?_
        rintro e w' ⟨rfl, rfl⟩
        go_wp2_with fail
        refine (c18 _ _ _ cs' w6 hW6).mono ?_
        rintro e w' ⟨rfl, rfl⟩
        go_wp2_with fail
        refine (c11 _ _ _ cs' w6 hB6).mono ?_
        rintro e w' ⟨rfl, rfl⟩
        go_wp2_with fail
        refine (c19 xl _ _ _ cs' w6 hm' hB6).mono ?_
        rintro e w7 ⟨rfl, hb7⟩
        have hW7 := hW6.below hb7 (Nat.le_refl _)
        obtain ⟨o0, o1, o2, o3, o4, olt⟩ := (hO6.below hb7 hO6.lt).five
        go_wp2_with fail
        refine (c20 xl _ _ _ cs' w7 hm' hW7).mono ?_
        rintro e w8 ⟨rfl, hb8⟩
        have hT8 := Lib.hid (((HZ.out.two.below Hb6.out).below hb7).below hb8)
        have HS8 := hb8.size
        clear hb8 hb7 hO6 hW7 hB6 hW6 o0 o1 o2 o3 o4 olt hm8 hm'
        go_wp2
        go_roundw
        case rel => exact ⟨j + 1, by omega, by go_num, cs', hT8.out⟩
        case measure => simp [intOf]; omega
    · obtain ⟨⟨vB, hkB⟩, ⟨vW, hkW⟩, _, hbr⟩ := HR.out
      have Hbr := Lib.hid hbr
      clear hbr
      go_wp2_with fail
      refine (c19 lb _ _ _ cs wr hm hkB).mono ?_
      rintro e w7 ⟨rfl, hb7⟩
      have hkW7 := hkW.below hb7 (Nat.le_refl _)
      have hb7' := Hbr.out.trans (hb7.mono hsz)
      have HB7 := Lib.hid hb7'
      have hs7 := hb7'.size
      clear hb7 hb7' hkB hkW
      go_wp2_with fail
      refine (c20 lb _ _ _ cs w7 hm hkW7).mono ?_
      rintro e w8 ⟨rfl, hb8⟩
      have HB8 := Lib.hid (HB7.out.trans (hb8.mono hs7))
      clear hb8 hkW7
      go_wp2
      go_ret
      exact ⟨ret_bool (by simp), HB8.out⟩
end Go.Proofs.Ytpfacfolocjidaa
