import Derived.Test.YtpfacfolocjidaaBo
import Derived.Deep.RegionHeld3
import Derived.Deep.RegionHeldLaw
import Derived.Deep.DeepCutAuto
import Derived.Deep.DrawnRows
namespace Go.Proofs.Ytpfacfolocjidaa
open Go.RowKit
attribute [local go_sem ↓] Go.wp_at_zero Go.wp_at_succ

def NumsAt (w : World) (A : Option Addr) (zs : List Int) : Prop := 0 < zs.length → ∃ g o, A = some ⟨g, o, none⟩ ∧ g < w.heap.size ∧ ∀ i (h : i < zs.length), w.cell? ⟨g, o + i, none⟩ = some (.int .u16 zs[i])
def TextsAt (w : World) (A : Option Addr) (ss : List ByteArray) : Prop := 0 < ss.length → ∃ g o, A = some ⟨g, o, none⟩ ∧ g < w.heap.size ∧ ∀ i (h : i < ss.length), w.cell? ⟨g, o + i, none⟩ = some (.string ss[i]) ∧ ss[i].size ≤ maxLen

/-- behind an opening: where its message lies -/
def Opened (w0 w : World) (b1 b2 : Nat) (cs cs' : List Ch) (S K : Int) (ds : List UInt8) (m : Value) : Prop :=
  ∃ mb A c, m = .pointer (some ⟨mb, 0, none⟩) ∧ w0.heap.size ≤ mb ∧ Blk w mb 29 #[.int .u16 S, .int .u32 K, .slice A ds.length c] ∧ Byts w A ds ∧ Pair w0 w b1 b2 cs' cs

theorem blk_ne {T E base b g t : Nat} {v : Value} {cs : List Ch} {w : World} {oc : Array Value} (h1 : Bk T E w base b v cs) (hk : Blk w g t oc) (h59 : T ≠ t) : g ≠ b := by
  rintro rfl
  have := h1.blk
  unfold Blk at hk
  rw [hk] at this
  simp at this
  exact h59 this.2.symm
theorem Pair.put3 {w0 w : World} {b1 b2 : Nat} {cs1 cs2 : List Ch} (h : Pair w0 w b1 b2 cs1 cs2) {g t : Nat} {oc : Array Value} (hk : Blk w g t oc) (h59 : 59 ≠ t) (h74 : 74 ≠ t) (hg : w0.heap.size ≤ g) (x y z : Value) : Pair w0 (Proofs.Ytpfacfolocjidaa.set3 w g x y z) b1 b2 cs1 cs2 := by
  obtain ⟨⟨v1, v2, h1, h2, h3⟩, hne, hb⟩ := h
  have n1 : g ≠ b1 := by
    rintro rfl
    have := h1.blk
    unfold Blk at hk
    rw [hk] at this
    simp at this
    exact h59 this.2.symm
  have n2 : g ≠ b2 := by
    rintro rfl
    have := h2.blk
    unfold Blk at hk
    rw [hk] at this
    simp at this
    exact h59 this.2.symm
  exact ⟨⟨v1, v2, h1.set3 n1 (own_ne_blk h1.own hk h74) _ _ _, h2.set3 n2 (own_ne_blk h2.own hk h74) _ _ _, h3⟩, hne, Below.put3 hb hg _ _ _⟩
theorem Below.allocA {a w : World} (h : Below a.heap.size a w) (o : Obj) : Below a.heap.size a (w.alloc o) := h.alloc h.size o
/-- an opening at one of the two books -/
def AOpen (w0 W : World) (b1 b2 : Nat) (cs cs' : List Ch) (S K n : Int) (ds : List UInt8) (e : Ending) (w4 : World) : Prop :=
  ∃ A c, e = .returned (.tuple #[.agg #[.int .u16 S, .int .u32 K, .slice A ds.length c], .int .i64 n]) ∧ Hid (Pair w0 w4 b1 b2 cs' cs ∧ Byts w4 A ds ∧ W.heap.size ≤ w4.heap.size ∧ (∀ g t oc, 59 ≠ t → 74 ≠ t → Blk W g t oc → Blk w4 g t oc) ∧ (∀ g o, A = some ⟨g, o, none⟩ → 0 < ds.length → W.heap.size ≤ g))
theorem aopen {w0 wr : World} {b1 b2 : Nat} {cs cs' : List Ch} {s S K n : Int} {x : ByteArray} {ds : List UInt8} (hP : Pair w0 wr b1 b2 cs cs) (hx : x.size ≤ maxLen) (hm : cs.length ≤ 8)
    (hS : S = if openEE s x cs = 0 then s else 0) (hK : K = if openEE s x cs = 0 then 50 else 0) (hn : n = openEE s x cs) (hd : ds = if openEE s x cs = 0 then openD x else []) (hc : cs' = if openEE s x cs = 0 then cs ++ [(s, x)] else cs) :
    ∀ W, Below wr.heap.size wr W → Calls Try.prog 10 #[.pointer (some ⟨b1, 0, none⟩), .int .u16 s, .string x] W (AOpen w0 W b1 b2 cs cs' S K n ds) := by
  intro W hW
  obtain ⟨⟨v1, v2, h1, h2, h3⟩, hne, hb⟩ := hP
  have hs := hW.size
  refine (c10 s x _ b1 v1 cs W hx hm (h1.below hW (Nat.le_refl _))).mono ?_
  rintro e w4 ⟨v', D, q1, f, hat, q4, q5⟩
  rw [← hS, ← hK, ← hn] at q4
  rw [← hd] at q5
  rw [← hc] at q1
  obtain ⟨A, c, rfl⟩ := own_form q5
  refine ⟨A, c, q4, Pair.first (h1.below hW (Nat.le_refl _)) (h2.below hW (Nat.le_refl _)) h3 hne (hb.trans (hW.mono hb.size)) q1 f hat, Byts.of_own q5, f.size, fun g t oc h59 h74 hk => hk.fr f (blk_ne (h1.below hW (Nat.le_refl _)) hk h59) (own_ne_blk (h1.below hW (Nat.le_refl _)).own hk h74), ?_⟩
  rintro g o rfl _
  exact (q5.lt g rfl).1

/-- a taking at one of the two books -/
def ATake (w0 W : World) (b1 b2 : Nat) (cs2 : List Ch) (t : TK) (e : Ending) (w4 : World) : Prop :=
  ∃ A c, e = .returned (.tuple #[.agg #[.int .u16 t.s, .int .u32 t.k, .slice A t.d.length c], .string t.l, .int .i64 t.e]) ∧ Hid (Pair w0 w4 b1 b2 t.cs cs2 ∧ Byts w4 A t.d ∧ W.heap.size ≤ w4.heap.size ∧ (∀ g t oc, 59 ≠ t → 74 ≠ t → Blk W g t oc → Blk w4 g t oc) ∧ (∀ g o, A = some ⟨g, o, none⟩ → 0 < t.d.length → W.heap.size ≤ g))
theorem atake {w0 wr : World} {b1 b2 : Nat} {cs cs2 : List Ch} {s k : Int} {t : TK} {d : List UInt8} {A : Option Addr} {c : Nat} (hP : Pair w0 wr b1 b2 cs cs2) (hm : cs.length ≤ 8) (hl : d.length ≤ 140737488351232) (ht : takeS cs s k d = t) :
    ∀ W, Below wr.heap.size wr W → Byts W A d → Calls Try.prog 14 #[.pointer (some ⟨b1, 0, none⟩), .agg #[.int .u16 s, .int .u32 k, .slice A d.length c]] W (ATake w0 W b1 b2 cs2 t) := by
  intro W hW hB
  subst ht
  obtain ⟨⟨v1, v2, h1, h2, h3⟩, hne, hb⟩ := hP
  have hs := hW.size
  refine (c14 s k A c d _ b1 v1 cs W (h1.below hW (Nat.le_refl _)) hm hB hl).mono ?_
  rintro e w4 ⟨v', A', c', q1, f, hat, q4, q5, _, q7⟩
  refine ⟨A', c', q4, Pair.first (h1.below hW (Nat.le_refl _)) (h2.below hW (Nat.le_refl _)) h3 hne (hb.trans (hW.mono hb.size)) q1 f hat, q5, f.size, fun g t oc h59 h74 hk => hk.fr f (blk_ne (h1.below hW (Nat.le_refl _)) hk h59) (own_ne_blk (h1.below hW (Nat.le_refl _)).own hk h74), ?_⟩
  rintro g o rfl _
  exact ((q7 rfl).lt g rfl).1

theorem Below.allocTo {a w w2 : World} {o : Obj} (h : Below a.heap.size a w) (e : w.alloc o = w2) : Below a.heap.size a w2 := e ▸ Below.allocA h o
theorem Blk.allocTo {w w2 : World} {g t : Nat} {cs : Array Value} {o : Obj} (h : Blk w g t cs) (e : w.alloc o = w2) : Blk w2 g t cs := e ▸ h.below ((Below.refl _ _).alloc (Nat.le_refl _) o) (Array.getElem?_eq_some_iff.1 h).1
theorem Blk.newTo {w w2 : World} {q : Nat} {t : TypeId} {cs : Array Value} (e : w.alloc (.cells cs t) = w2) (hq : q = w.heap.size) : Blk w2 q t cs := by
  subst hq e
  exact Blk.new w t cs
theorem ownTo {w w2 : World} {base e size n : Nat} {v : Value} {xs : List Value} {o : Obj} (h : w.ownsRow base e size v n xs) (he : w.alloc o = w2) : w2.ownsRow base e size v n xs := he ▸ h.alloc o
theorem sizeTo {w w2 : World} {o : Obj} {k : Nat} (h : k ≤ w.heap.size) (e : w.alloc o = w2) : k ≤ w2.heap.size := by
  subst e
  simp
  omega
theorem ownLit {w w2 : World} {base : Nat} (h : base ≤ w.heap.size) (e : w.alloc (.cells #[] 5) = w2) : w2.ownsRow base 5 1 (.slice (some ⟨w.heap.size, 0, none⟩) 0 0) 0 [] := e ▸ World.ownsRow_lit (base := base) (e := 5) (size := 1) w #[] 0 h (Nat.zero_le _) rfl
theorem Byts.allocTo {w w2 : World} {A : Option Addr} {l : List UInt8} {o : Obj} (h : Byts w A l) (e : w.alloc o = w2) : Byts w2 A l := e ▸ h.alloc o
theorem Pair.allocTo {w0 w w2 : World} {b1 b2 : Nat} {cs1 cs2 : List Ch} {o : Obj} (h : Pair w0 w b1 b2 cs1 cs2) (e : w.alloc o = w2) : Pair w0 w2 b1 b2 cs1 cs2 := e ▸ h.below ((Below.refl _ _).alloc (Nat.le_refl _) o)
set_option linter.unusedSimpArgs false
set_option maxHeartbeats 16000000 in
set_option maxRecDepth 100000 in
theorem c5 (A0 A1 A2 : Option Addr) (n0 n1 n2 : Nat) (zs : List Int) (ss : List ByteArray) (d : List UInt8) (w : World) (h0 : NumsAt w A0 zs) (h1 : TextsAt w A1 ss) (h2 : Byts w A2 d)
    (hl0 : zs.length ≤ 140737488351232) (hl1 : ss.length ≤ 140737488351232) (hl2 : d.length ≤ 140737488351232) :
    Calls Try.prog 5 #[.slice A0 zs.length n0, .slice A1 ss.length n1, .slice A2 d.length n2] w fun e w' => e = .returned (.bool true) ∧ Below w.heap.size w w' := by
  go_enter Try.func5, Try.ntmps5
  go_wp2_with fail
  refine (c8 _).mono ?_
  rintro e w1 ⟨rfl, hb1⟩
  go_wp2_with fail
  refine (c9 _).mono ?_
  rintro e w2 ⟨rfl, rfl⟩
  have hk2 := bk_new w1 w.heap.size hb1.size
  have hb2 := hb1.alloc hb1.size (.cells #[.slice none 0 0] 59)
  go_wp2_with fail
  refine (c9 _).mono ?_
  rintro e w3 ⟨rfl, rfl⟩
  have hk3 := bk_new (w1.alloc (.cells #[.slice none 0 0] 59)) w.heap.size hb2.size
  simp only [World.size_alloc] at hk3
  have hP : Pair w ((w1.alloc (.cells #[.slice none 0 0] 59)).alloc (.cells #[.slice none 0 0] 59)) w1.heap.size (w1.heap.size + 1) [] [] :=
    ⟨⟨_, _, hk2.below ((Below.refl _ _).alloc (Nat.le_refl _) _) (Nat.le_refl _), hk3, fun g hg => by simp [Value.ownBlock] at hg⟩, by omega, hb2.alloc hb2.size _⟩
  have HP := Lib.hid hP
  have HN := Lib.hid h0
  have HS := Lib.hid h1
  have HD := Lib.hid h2
  clear hP hk2 hk3 hb2 hb1 h0 h1 h2
  go_wp2_with fail
  go_loopw [27] (fun i wr => ∃ j : Nat, j ≤ zs.length ∧ i = .int .i64 j ∧ ∃ cs, cs.length ≤ 8 ∧ Pair w wr w1.heap.size (w1.heap.size + 1) cs cs) (fun i _ => zs.length - (intOf i).toNat)
  case atStart => exact ⟨0, Nat.zero_le _, rfl, [], by simp, HP.out⟩
  case round =>
    obtain ⟨j, hj, rfl, cs, hm, hPr⟩ := hrel
    have HR := Lib.hid hPr
    have hsz := hPr.hb.size
    clear hPr
    by_cases hlt : j < zs.length
    · by_cases hl : j < ss.length
      · by_cases h20 : j < 20
        · have e1 : decide ((ss.length : Int) ≤ j) = false := by simpa using hl
          have e2 : decide ((20 : Int) ≤ j) = false := by simp; omega
          obtain ⟨g0, o0, rfl, hg0, hn0⟩ := HN.out (by omega)
          obtain ⟨g1, o1, rfl, hg1, hn1⟩ := HS.out (by omega)
          have hz := (HR.out.hb.cell (p := ⟨g0, o0 + j, none⟩) hg0).trans (hn0 j hlt)
          obtain ⟨hsj, hsl⟩ := hn1 j hl
          have hs := (HR.out.hb.cell (p := ⟨g1, o1 + j, none⟩) hg1).trans hsj
          have i0 : (0 : Int) ≤ j := by omega
          have i1 : (j : Int) < zs.length := by omega
          have i2 : (j : Int) < ss.length := by omega
          obtain ⟨s, hsd⟩ : ∃ s, s = zs[j] := ⟨_, rfl⟩
          obtain ⟨x, hxd⟩ : ∃ x, x = ss[j] := ⟨_, rfl⟩
          have hzw := hn0 j hlt
          have hsw := hsj
          rw [← hsd] at hz hzw
          rw [← hxd] at hs hsl hsw
          clear hsd hxd hn0 hn1 hsj
          go_wp2_with fail
          obtain ⟨S, hS⟩ : ∃ S, S = if openEE s x cs = 0 then s else 0 := ⟨_, rfl⟩
          obtain ⟨K, hK⟩ : ∃ K : Int, K = if openEE s x cs = 0 then 50 else 0 := ⟨_, rfl⟩
          obtain ⟨n, hn⟩ : ∃ n, n = openEE s x cs := ⟨_, rfl⟩
          obtain ⟨ds, hds⟩ : ∃ ds, ds = if openEE s x cs = 0 then openD x else [] := ⟨_, rfl⟩
          obtain ⟨cs', hcs⟩ : ∃ cs', cs' = if openEE s x cs = 0 then cs ++ [(s, x)] else cs := ⟨_, rfl⟩
          have HE := Lib.hid (And.intro hS (And.intro hK (And.intro hn (And.intro hds hcs))))
          clear hS hK hn hds hcs
          have hCA := aopen HR.out hsl hm HE.out.1 HE.out.2.1 HE.out.2.2.1 HE.out.2.2.2.1 HE.out.2.2.2.2
          have HCA := Lib.hid hCA
          have hSS : ∀ W, Below w.heap.size w W → W.cell? ⟨g0, o0 + j, none⟩ = some (.int .u16 s) ∧ W.cell? ⟨g1, o1 + j, none⟩ = some (.string x) := fun W h => ⟨(h.cell (p := ⟨g0, o0 + j, none⟩) hg0).trans hzw, (h.cell (p := ⟨g1, o1 + j, none⟩) hg1).trans hsw⟩
          have HSS := Lib.hid hSS
          clear hCA hSS hzw hsw
          go_upto_region 8 with fail
          go_cut [10, 11] (fun s10 s11 wx => s11 = .int .i64 n ∧ Opened w wx w1.heap.size (w1.heap.size + 1) cs cs' S K ds s10)
          case first =>
            go_region_held3 (fun w' => w'.cell? ⟨g0, o0 + j, none⟩ = some (.int .u16 s) ∧ w'.cell? ⟨g1, o1 + j, none⟩ = some (.string x)) (first | go_keep | exact HSS.out _ hq.out.1.hb | exact HSS.out _ (Below.alloc hq.out.1.hb hq.out.1.hb.size _) | exact HSS.out _ (Below.put3 hq.out.1.hb hsz _ _ _))
              ((go_at_call 10; refine (HCA.out _ ?_).mono ?_; (repeat (first | exact Below.refl _ _ | apply Below.drew | (refine Below.alloc ?_ (Nat.le_refl _) _))); rintro e w4 ⟨A4, d4, rfl, hq⟩; try (have hk : Blk w4 wr.heap.size 29 #[.int .u16 0, .int .u32 0, .slice none 0 0] := by (refine hq.out.2.2.2.1 _ _ _ (by decide) (by decide) ?_; exact Blk.new wr 29 _)); try (obtain ⟨x0, x1, x2, xf0, xf1, xf2, xlt⟩ := hk.three)))
            · have hP4 := hq.out.1.below ((Below.refl _ _).alloc (Nat.le_refl _) (.cells #[.int .u16 S, .int .u32 K, .slice A4 ds.length d4] 29))
              have hB4 := hq.out.2.1.alloc (.cells #[.int .u16 S, .int .u32 K, .slice A4 ds.length d4] 29)
              have hR := Lib.hid (show Opened w (w4.alloc (.cells #[.int .u16 S, .int .u32 K, .slice A4 ds.length d4] 29)) w1.heap.size (w1.heap.size + 1) cs cs' S K ds (.pointer (some ⟨w4.heap.size, 0, none⟩)) from ⟨_, A4, d4, rfl, hq.out.1.hb.size, Blk.new _ _ _, hB4, hP4⟩)
              clear hP4 hB4 hq
              go_wp2_with fail
              go_meet
              exact ⟨rfl, hR.out⟩
            · have hsz4 := hq.out.2.2.1
              have hP4 := hq.out.1.put3 hk (by decide) (by decide) hsz (.int .u16 S) (.int .u32 K) (.slice A4 ds.length d4)
              have hB4 := hq.out.2.1.put3 (g := wr.heap.size) (fun g o e h0 => by have := hq.out.2.2.2.2 g o e h0; simp at this; omega) (.int .u16 S) (.int .u32 K) (.slice A4 ds.length d4)
              have hR := Lib.hid (show Opened w (set3 w4 wr.heap.size (.int .u16 S) (.int .u32 K) (.slice A4 ds.length d4)) w1.heap.size (w1.heap.size + 1) cs cs' S K ds (.pointer (some ⟨wr.heap.size, 0, none⟩)) from ⟨_, A4, d4, rfl, hsz, hk.put3 _ _ _, hB4, hP4⟩)
              clear hP4 hB4 hq
              go_wp2_with fail
              go_meet
              exact ⟨rfl, hR.out⟩
          case rest =>
            obtain ⟨rfl, mb, A4, d4, rfl, hmb, hM, hMB, hP4⟩ := hcut
            have HP4 := Lib.hid hP4
            have hsz4 := hP4.hb.size
            clear hP4
            by_cases hn0 : n = 0
            · obtain ⟨hw, hE0⟩ := openEE_zero (HE.out.2.2.1.symm.trans hn0)
              have eS : S = s := by rw [HE.out.1, if_pos (HE.out.2.2.1.symm.trans hn0)]
              have eK : K = 50 := by rw [HE.out.2.1, if_pos (HE.out.2.2.1.symm.trans hn0)]
              have ed : ds = openD x := by rw [HE.out.2.2.2.1, if_pos (HE.out.2.2.1.symm.trans hn0)]
              have ec : cs' = cs ++ [(s, x)] := by rw [HE.out.2.2.2.2, if_pos (HE.out.2.2.1.symm.trans hn0)]
              have hm' : cs'.length ≤ 8 := by
                have := openEE_len (cs := cs) s x hm
                rw [if_pos (HE.out.2.2.1.symm.trans hn0)] at this
                rw [ec]; exact this
              subst hn0 eS eK ed
              have Hec := Lib.hid ec
              have Hw := Lib.hid hw
              have HE0 := Lib.hid hE0
              clear HE ec hw hE0
              obtain ⟨m0, m1, m2, mf0, mf1, mf2, mlt⟩ := hM.three
              have hdl : (openD x).length ≤ 140737488351232 := by
                have := Hw.out
                simp only [wordB, Bool.and_eq_true, decide_eq_true_eq] at this
                have e : (openD x).length = 12 + x.data.toList.length := by unfold openD; rw [List.length_append]; rfl
                have e2 : x.data.toList.length = x.size := rfl
                omega
              have hC1 := atake (A := A4) (c := d4) HP4.out.swap hm hdl (take_open Hw.out HE0.out) wc (Below.refl _ _) hMB
              have HC1 := Lib.hid hC1
              clear hC1 hMB
              go_wp2_with fail
              refine HC1.out.mono ?_
              rintro e w5 ⟨A5, d5, rfl, hq5⟩
              obtain ⟨q1, q2, q3, q4, q5⟩ := hq5.out
              rw [← Hec.out] at q1
              have hk5 : Blk (w5.alloc (.cells #[.int .u16 S, .int .u32 50, .slice A5 1 d5] 29)) w5.heap.size 29 #[.int .u16 S, .int .u32 50, .slice A5 1 d5] := Blk.new _ _ _
              have hB5 := q2.alloc (.cells #[.int .u16 S, .int .u32 50, .slice A5 1 d5] 29)
              have hta : takeS cs' S 50 [2] = ⟨0, 0, [], ⟨#[]⟩, 0, cs'⟩ := by rw [Hec.out]; exact take_ack
              have HC2 := Lib.hid (atake (c := d5) q1.swap hm' (by simp) hta _ ((Below.refl _ _).alloc (Nat.le_refl _) (.cells #[.int .u16 S, .int .u32 50, .slice A5 1 d5] 29)) hB5)
              have hs5 := q1.hb.size
              have HK5 := Lib.hid hk5
              clear q1 q2 q3 q4 q5 hq5 hta hB5 HC1 m0 m1 m2 mf0 mf1 mf2 mlt
              obtain ⟨a0, a1, a2, af0, af1, af2, alt⟩ := hk5.three
              clear hk5
              go_wp2_with fail
              refine HC2.out.mono ?_
              rintro e w6 ⟨A6, d6, rfl, hq6⟩
              obtain ⟨q1, q2, q3, q4, q5⟩ := hq6.out
              have hk6 := q4 _ _ _ (by decide) (by decide) HK5.out
              have hs6 := q1.hb.size
              have HP6 := Lib.hid q1
              have HK6 := Lib.hid hk6
              clear a0 a1 a2 af0 af1 af2 alt q1 q2 q3 q4 q5 hq6 hk6 HC2
              have htt : takeS cs' S 51 d = ⟨S, 51, d, x, 0, cs'⟩ := by rw [Hec.out]; exact take_text HE0.out
              go_upto_region 12 with fail
              go_cut [18, 19, 20] (fun s18 s19 s20 wx => s19 = .string x ∧ s20 = .int .i64 0 ∧ ∃ mb A c, s18 = .pointer (some ⟨mb, 0, none⟩) ∧ Blk wx mb 29 #[.int .u16 S, .int .u32 51, .slice A d.length c] ∧ Byts wx A d ∧ Pair w wx w1.heap.size (w1.heap.size + 1) cs' cs' ∧ Blk wx w5.heap.size 29 #[.int .u16 S, .int .u32 50, .slice A5 1 d5])
              case first =>
                obtain ⟨i0, hi, hz0, hz1, hz2⟩ := info_parts info5
                have hAny : ∀ W, Below w6.heap.size w6 W → Below w.heap.size w W := fun W h => HP6.out.hb.trans (h.mono hs6)
                have hSrc : ∀ W, Below w6.heap.size w6 W → Src Try.prog 1 27 (.slice A2 d.length n2) d.length (bvs d) W := fun W h => (HD.out.below (hAny W h) (Nat.le_refl _)).src Try.underlying27 n2
                have HSrc := Lib.hid hSrc
                have HAny := Lib.hid hAny
                have HC3 := Lib.hid (fun (A : Option Addr) (c : Nat) => atake (A := A) (c := c) HP6.out.swap hm' hl2 htt)
                clear hAny hSrc htt
                have hB6 := (Below.allocA (Below.refl w6.heap.size w6) (.cells #[.int .u16 0, .int .u32 0, .slice A6 0 d6] 29)).drew
                have h6s : w6.heap.size ≤ ((w6.alloc (.cells #[.int .u16 0, .int .u32 0, .slice A6 0 d6] 29)).drew).heap.size := hB6.size
                have hk5 : Blk ((w6.alloc (.cells #[.int .u16 0, .int .u32 0, .slice A6 0 d6] 29)).drew) w5.heap.size 29 #[.int .u16 S, .int .u32 50, .slice A5 1 d5] := HK6.out.below hB6 (Array.getElem?_eq_some_iff.1 HK6.out).1
                have h56 : w5.heap.size < w6.heap.size := (Array.getElem?_eq_some_iff.1 HK6.out).1
                refine wp_region_held_drew (S := (fun w' => w'.cell? ⟨g0, o0 + j, none⟩ = some (.int .u16 S))) (by kernel_rfl) (by (try dsimp only); first | exact (HSS.out _ (HAny.out _ hB6)).1 | exact (HSS.out _ (HAny.out _ (Below.allocA hB6 _))).1 | exact (HSS.out _ hP8.hb).1 | exact (HSS.out _ (Below.alloc hP8.hb hP8.hb.size _)).1 | exact (HSS.out _ (Below.put3 hP8.hb (Nat.le_trans hs6 hqx) _ _ _)).1) (fun hHeld => ?_)
                generalize World.drew (World.alloc w6 _) = W at hB6 h6s hk5 hHeld ⊢
                refine wpAnyH_take (i := 0) (oi := _) (v := ?_) rfl (by kernel_rfl) (by kernel_rfl) (by kernel_rfl) (fun _ _ _ h => h) (Or.inl ⟨by rfl, ?_⟩) (by assumption) ?_
                rotate_left
                · (intro w hSw; (try dsimp only at hSw); go_simp; try with_reducible rfl)
                try simp only [Act.put, List.getElem_toArray, List.getElem_cons_zero, List.getElem_cons_succ, List.setIfInBounds_toArray, List.set_cons_zero, List.set_cons_succ]
                refine wpAnyH_take (i := 1) (oi := _) (v := ?_) rfl (by kernel_rfl) (by kernel_rfl) (by kernel_rfl) (fun _ _ _ h => h) (Or.inl ⟨by rfl, ?_⟩) (by assumption) ?_
                rotate_left
                · (intro w hSw; (try dsimp only at hSw); go_simp; try with_reducible rfl)
                try simp only [Act.put, List.getElem_toArray, List.getElem_cons_zero, List.getElem_cons_succ, List.setIfInBounds_toArray, List.set_cons_zero, List.set_cons_succ]
                refine wpAnyH_take (i := 2) (oi := _) (v := ?_) rfl (by kernel_rfl) (by kernel_rfl) (by kernel_rfl) (fun _ _ _ h => h) (Or.inl ⟨by rfl, ?_⟩) (by assumption) ?_
                rotate_left
                · (intro w hSw; (try dsimp only at hSw); go_simp; try with_reducible rfl)
                try simp only [Act.put, List.getElem_toArray, List.getElem_cons_zero, List.getElem_cons_succ, List.setIfInBounds_toArray, List.set_cons_zero, List.set_cons_succ]
                refine wpAnyH_take (i := 3) (oi := _) (v := ?_) rfl (by kernel_rfl) (by kernel_rfl) (by kernel_rfl) (fun _ _ _ h => h) (Or.inl ⟨by rfl, ?_⟩) (by assumption) ?_
                rotate_left
                · (intro w hSw; (try dsimp only at hSw); go_simp; try with_reducible rfl)
                try simp only [Act.put, List.getElem_toArray, List.getElem_cons_zero, List.getElem_cons_succ, List.setIfInBounds_toArray, List.set_cons_zero, List.set_cons_succ]
                refine wpAnyH_take (i := 4) (oi := _) (v := ?_) rfl (by kernel_rfl) (by kernel_rfl) (by kernel_rfl) (fun _ _ _ h => h) (Or.inl ⟨by rfl, ?_⟩) (by assumption) ?_
                rotate_left
                · (intro w hSw; (try dsimp only at hSw); go_simp; try with_reducible rfl)
                try simp only [Act.put, List.getElem_toArray, List.getElem_cons_zero, List.getElem_cons_succ, List.setIfInBounds_toArray, List.set_cons_zero, List.set_cons_succ]
                refine wpAnyH_take (i := 6) (oi := _) (v := ?_) rfl (by kernel_rfl) (by kernel_rfl) (by kernel_rfl) (fun _ _ _ h => h) (Or.inl ⟨by rfl, ?_⟩) (by assumption) ?_
                rotate_left
                · (intro w hSw; (try dsimp only at hSw); go_simp; try with_reducible rfl)
                try simp only [Act.put, List.getElem_toArray, List.getElem_cons_zero, List.getElem_cons_succ, List.setIfInBounds_toArray, List.set_cons_zero, List.set_cons_succ]
                refine wpAnyH_ready (rs := [5, 14]) (by kernel_rfl) (by simp) ?_
                refine (AllReadyH.cons (o := _) rfl (fun K hK => ?_) (AllReadyH.cons (o := _) rfl (fun K hK => ?_) AllReadyH.nil))
                · skip
                  go_simp
                  try clear hHeld
                  refine hK.out _ _ (by (try dsimp only); first | exact (HSS.out _ (HAny.out _ hB6)).1 | exact (HSS.out _ (HAny.out _ (Below.allocA hB6 _))).1 | exact (HSS.out _ hP8.hb).1 | exact (HSS.out _ (Below.alloc hP8.hb hP8.hb.size _)).1 | exact (HSS.out _ (Below.put3 hP8.hb (Nat.le_trans hs6 hqx) _ _ _)).1) (fun hHeld => ?_)
                  clear hK K
                  try simp only [Act.put, List.getElem_toArray, List.getElem_cons_zero, List.getElem_cons_succ, List.setIfInBounds_toArray, List.set_cons_zero, List.set_cons_succ]
                  generalize hw : World.alloc W _ = W at hHeld ⊢
                  have hown := ownLit h6s hw
                  replace hB6 := Below.allocTo hB6 hw
                  replace h6s := sizeTo h6s hw
                  replace hk5 := hk5.allocTo hw
                  try replace hx := hx.allocTo hw
                  clear hw
                  refine wpAnyH_ready (rs := [7, 14]) (by kernel_rfl) (by simp) ?_
                  refine (AllReadyH.cons (o := _) rfl (fun K hK => ?_) (AllReadyH.cons (o := _) rfl (fun K hK => ?_) AllReadyH.nil))
                  · skip
                    refine step_append_src _ (by rfl) _ _ 27 27 (by rfl) w6.heap.size 5 i0 (.int .u8 0) 1 1 Try.underlying27 hi hz0 hz1 hz2 rfl _ 0 [] (by rfl) hown (.slice A2 d.length n2) d.length (bvs d) (by rfl) (HSrc.out _ hB6) (by unfold maxLen; omega) (by omega) h6s ?_
                    intro v' W hown7 hgrow hat
                    have hown8 : W.ownsRow w6.heap.size 5 1 v' d.length (bvs d) := by simpa using hown7
                    obtain ⟨A7, c7, rfl⟩ := own_form hown8
                    replace hk5 := hk5.grown hgrow (fun e => own_ne_blk hown hk5 (by decide) e.symm)
                    try replace hx := hx.grown hgrow (fun e => own_ne_blk hown hx (by decide) e.symm)
                    replace hB6 := hB6.grown hgrow h6s (fun k hk => (hown.lt k hk).1)
                    replace h6s := hB6.size
                    have hby := Byts.of_own hown8
                    clear hown hown7 hown8 hgrow hat
                    try clear hHeld
                    refine hK.out _ _ (by (try dsimp only); first | exact (HSS.out _ (HAny.out _ hB6)).1 | exact (HSS.out _ (HAny.out _ (Below.allocA hB6 _))).1 | exact (HSS.out _ hP8.hb).1 | exact (HSS.out _ (Below.alloc hP8.hb hP8.hb.size _)).1 | exact (HSS.out _ (Below.put3 hP8.hb (Nat.le_trans hs6 hqx) _ _ _)).1) (fun hHeld => ?_)
                    clear hK K
                    try simp only [Act.put, List.getElem_toArray, List.getElem_cons_zero, List.getElem_cons_succ, List.setIfInBounds_toArray, List.set_cons_zero, List.set_cons_succ]
                    refine wpAnyH_take (i := 8) (oi := _) (v := ?_) rfl (by kernel_rfl) (by kernel_rfl) (by kernel_rfl) (fun _ _ _ h => h) (Or.inl ⟨by rfl, ?_⟩) (by assumption) ?_
                    rotate_left
                    · (intro w hSw; (try dsimp only at hSw); go_simp; try with_reducible rfl)
                    try simp only [Act.put, List.getElem_toArray, List.getElem_cons_zero, List.getElem_cons_succ, List.setIfInBounds_toArray, List.set_cons_zero, List.set_cons_succ]
                    refine wpAnyH_ready (rs := [9, 14]) (by kernel_rfl) (by simp) ?_
                    refine (AllReadyH.cons (o := _) rfl (fun K hK => ?_) (AllReadyH.cons (o := _) rfl (fun K hK => ?_) AllReadyH.nil))
                    · skip
                      go_simp
                      refine (HC3.out A7 c7 W hB6 hby).mono ?_
                      rintro e W ⟨A8, d8, rfl, hq8⟩
                      obtain ⟨hP8, hby8, hsz8, hfar8, _⟩ := hq8.out
                      replace hk5 := hfar8 _ _ _ (by decide) (by decide) hk5
                      try replace hx := hfar8 _ _ _ (by decide) (by decide) hx
                      replace h6s := Nat.le_trans h6s hsz8
                      clear hB6 hby hfar8 hq8 hsz8
                      try clear hHeld
                      refine hK.out _ _ (by (try dsimp only); first | exact (HSS.out _ (HAny.out _ hB6)).1 | exact (HSS.out _ (HAny.out _ (Below.allocA hB6 _))).1 | exact (HSS.out _ hP8.hb).1 | exact (HSS.out _ (Below.alloc hP8.hb hP8.hb.size _)).1 | exact (HSS.out _ (Below.put3 hP8.hb (Nat.le_trans hs6 hqx) _ _ _)).1) (fun hHeld => ?_)
                      clear hK K
                      try simp only [Act.put, List.getElem_toArray, List.getElem_cons_zero, List.getElem_cons_succ, List.setIfInBounds_toArray, List.set_cons_zero, List.set_cons_succ]
                      refine wpAnyH_take (i := 10) (oi := _) (v := ?_) rfl (by kernel_rfl) (by kernel_rfl) (by kernel_rfl) (fun _ _ _ h => h) (Or.inl ⟨by rfl, ?_⟩) (by assumption) ?_
                      rotate_left
                      · (intro w hSw; (try dsimp only at hSw); go_simp; try with_reducible rfl)
                      try simp only [Act.put, List.getElem_toArray, List.getElem_cons_zero, List.getElem_cons_succ, List.setIfInBounds_toArray, List.set_cons_zero, List.set_cons_succ]
                      refine wpAnyH_take (i := 11) (oi := _) (v := ?_) rfl (by kernel_rfl) (by kernel_rfl) (by kernel_rfl) (fun _ _ _ h => h) (Or.inl ⟨by rfl, ?_⟩) (by assumption) ?_
                      rotate_left
                      · (intro w hSw; (try dsimp only at hSw); go_simp; try with_reducible rfl)
                      try simp only [Act.put, List.getElem_toArray, List.getElem_cons_zero, List.getElem_cons_succ, List.setIfInBounds_toArray, List.set_cons_zero, List.set_cons_succ]
                      refine wpAnyH_take (i := 12) (oi := _) (v := ?_) rfl (by kernel_rfl) (by kernel_rfl) (by kernel_rfl) (fun _ _ _ h => h) (Or.inl ⟨by rfl, ?_⟩) (by assumption) ?_
                      rotate_left
                      · (intro w hSw; (try dsimp only at hSw); go_simp; try with_reducible rfl)
                      try simp only [Act.put, List.getElem_toArray, List.getElem_cons_zero, List.getElem_cons_succ, List.setIfInBounds_toArray, List.set_cons_zero, List.set_cons_succ]
                      refine wpAnyH_take (i := 13) (oi := _) (v := ?_) rfl (by kernel_rfl) (by kernel_rfl) (by kernel_rfl) (fun _ _ _ h => h) (Or.inl ⟨by rfl, ?_⟩) (by assumption) ?_
                      rotate_left
                      · (intro w hSw; (try dsimp only at hSw); go_simp; try with_reducible rfl)
                      try simp only [Act.put, List.getElem_toArray, List.getElem_cons_zero, List.getElem_cons_succ, List.setIfInBounds_toArray, List.set_cons_zero, List.set_cons_succ]
                      refine wpAnyH_ready (rs := [14]) (by kernel_rfl) (by simp) ?_
                      refine (AllReadyH.cons (o := _) rfl (fun K hK => ?_) AllReadyH.nil)
                      go_simp
                      obtain ⟨qx, hqx'⟩ : ∃ n, n = W.heap.size := ⟨_, rfl⟩
                      rw [← hqx']
                      try clear hHeld
                      refine hK.out _ _ (by (try dsimp only); first | exact (HSS.out _ (HAny.out _ hB6)).1 | exact (HSS.out _ (HAny.out _ (Below.allocA hB6 _))).1 | exact (HSS.out _ hP8.hb).1 | exact (HSS.out _ (Below.alloc hP8.hb hP8.hb.size _)).1 | exact (HSS.out _ (Below.put3 hP8.hb (Nat.le_trans hs6 hqx) _ _ _)).1) (fun hHeld => ?_)
                      clear hK K
                      try simp only [Act.put, List.getElem_toArray, List.getElem_cons_zero, List.getElem_cons_succ, List.setIfInBounds_toArray, List.set_cons_zero, List.set_cons_succ]
                      generalize hw : World.alloc W _ = W at hHeld ⊢
                      have hx := Blk.newTo hw hqx'
                      have hqx : w6.heap.size ≤ qx := by rw [hqx']; exact h6s
                      try replace hown := ownTo hown hw
                      try replace hB6 := Below.allocTo hB6 hw
                      try replace hby := hby.allocTo hw
                      try replace hby8 := hby8.allocTo hw
                      try replace hP8 := hP8.allocTo hw
                      replace h6s := sizeTo h6s hw
                      replace hk5 := hk5.allocTo hw
                      clear hw hqx'
                      refine wpAnyH_ready (rs := [15]) (by kernel_rfl) (by simp) ?_
                      refine (AllReadyH.cons (o := _) rfl (fun K hK => ?_) AllReadyH.nil)
                      obtain ⟨z0, z1, z2, zf0, zf1, zf2, zlt⟩ := hx.three
                      go_simp
                      try clear hHeld
                      refine hK.out _ _ (by (try dsimp only); first | exact (HSS.out _ (HAny.out _ hB6)).1 | exact (HSS.out _ (HAny.out _ (Below.allocA hB6 _))).1 | exact (HSS.out _ hP8.hb).1 | exact (HSS.out _ (Below.alloc hP8.hb hP8.hb.size _)).1 | exact (HSS.out _ (Below.put3 hP8.hb (Nat.le_trans hs6 hqx) _ _ _)).1) (fun hHeld => ?_)
                      clear hK K
                      try simp only [Act.put, List.getElem_toArray, List.getElem_cons_zero, List.getElem_cons_succ, List.setIfInBounds_toArray, List.set_cons_zero, List.set_cons_succ]
                      clear z0 z1 z2 zf0 zf1 zf2 zlt
                      refine wpAnyH_take (i := 16) (oi := _) (v := ?_) rfl (by kernel_rfl) (by kernel_rfl) (by kernel_rfl) (fun _ _ _ h => h) (Or.inl ⟨by rfl, ?_⟩) (by assumption) ?_
                      rotate_left
                      · (intro w hSw; (try dsimp only at hSw); go_simp; try with_reducible rfl)
                      try simp only [Act.put, List.getElem_toArray, List.getElem_cons_zero, List.getElem_cons_succ, List.setIfInBounds_toArray, List.set_cons_zero, List.set_cons_succ]
                      refine wpAnyH_take (i := 17) (oi := _) (v := ?_) rfl (by kernel_rfl) (by kernel_rfl) (by kernel_rfl) (fun _ _ _ h => h) (Or.inl ⟨by rfl, ?_⟩) (by assumption) ?_
                      rotate_left
                      · (intro w hSw; (try dsimp only at hSw); go_simp; try with_reducible rfl)
                      try simp only [Act.put, List.getElem_toArray, List.getElem_cons_zero, List.getElem_cons_succ, List.setIfInBounds_toArray, List.set_cons_zero, List.set_cons_succ]
                      refine wpAnyH_done (by kernel_rfl) ?_ _
                      go_wp2
                      go_meet
                      exact ⟨rfl, rfl, qx, A8, d8, rfl, hx.put3 _ _ _, hby8.put3 (hby8.ne3 hx) _ _ _, (hP8.put3 hx (by decide) (by decide) (Nat.le_trans hs6 hqx) _ _ _).swap, hk5.below (Below.put3 (Below.refl w6.heap.size W) hqx _ _ _) h56⟩
                    · skip
                      go_simp
                      obtain ⟨qx, hqx'⟩ : ∃ n, n = W.heap.size := ⟨_, rfl⟩
                      rw [← hqx']
                      try clear hHeld
                      refine hK.out _ _ (by (try dsimp only); first | exact (HSS.out _ (HAny.out _ hB6)).1 | exact (HSS.out _ (HAny.out _ (Below.allocA hB6 _))).1 | exact (HSS.out _ hP8.hb).1 | exact (HSS.out _ (Below.alloc hP8.hb hP8.hb.size _)).1 | exact (HSS.out _ (Below.put3 hP8.hb (Nat.le_trans hs6 hqx) _ _ _)).1) (fun hHeld => ?_)
                      clear hK K
                      try simp only [Act.put, List.getElem_toArray, List.getElem_cons_zero, List.getElem_cons_succ, List.setIfInBounds_toArray, List.set_cons_zero, List.set_cons_succ]
                      generalize hw : World.alloc W _ = W at hHeld ⊢
                      have hx := Blk.newTo hw hqx'
                      have hqx : w6.heap.size ≤ qx := by rw [hqx']; exact h6s
                      try replace hown := ownTo hown hw
                      try replace hB6 := Below.allocTo hB6 hw
                      try replace hby := hby.allocTo hw
                      try replace hby8 := hby8.allocTo hw
                      try replace hP8 := hP8.allocTo hw
                      replace h6s := sizeTo h6s hw
                      replace hk5 := hk5.allocTo hw
                      clear hw hqx'
                      refine wpAnyH_ready (rs := [9]) (by kernel_rfl) (by simp) ?_
                      refine (AllReadyH.cons (o := _) rfl (fun K hK => ?_) AllReadyH.nil)
                      go_simp
                      refine (HC3.out A7 c7 W hB6 hby).mono ?_
                      rintro e W ⟨A8, d8, rfl, hq8⟩
                      obtain ⟨hP8, hby8, hsz8, hfar8, _⟩ := hq8.out
                      replace hk5 := hfar8 _ _ _ (by decide) (by decide) hk5
                      try replace hx := hfar8 _ _ _ (by decide) (by decide) hx
                      replace h6s := Nat.le_trans h6s hsz8
                      clear hB6 hby hfar8 hq8 hsz8
                      try clear hHeld
                      refine hK.out _ _ (by (try dsimp only); first | exact (HSS.out _ (HAny.out _ hB6)).1 | exact (HSS.out _ (HAny.out _ (Below.allocA hB6 _))).1 | exact (HSS.out _ hP8.hb).1 | exact (HSS.out _ (Below.alloc hP8.hb hP8.hb.size _)).1 | exact (HSS.out _ (Below.put3 hP8.hb (Nat.le_trans hs6 hqx) _ _ _)).1) (fun hHeld => ?_)
                      clear hK K
                      try simp only [Act.put, List.getElem_toArray, List.getElem_cons_zero, List.getElem_cons_succ, List.setIfInBounds_toArray, List.set_cons_zero, List.set_cons_succ]
                      refine wpAnyH_take (i := 10) (oi := _) (v := ?_) rfl (by kernel_rfl) (by kernel_rfl) (by kernel_rfl) (fun _ _ _ h => h) (Or.inl ⟨by rfl, ?_⟩) (by assumption) ?_
                      rotate_left
                      · (intro w hSw; (try dsimp only at hSw); go_simp; try with_reducible rfl)
                      try simp only [Act.put, List.getElem_toArray, List.getElem_cons_zero, List.getElem_cons_succ, List.setIfInBounds_toArray, List.set_cons_zero, List.set_cons_succ]
                      refine wpAnyH_take (i := 11) (oi := _) (v := ?_) rfl (by kernel_rfl) (by kernel_rfl) (by kernel_rfl) (fun _ _ _ h => h) (Or.inl ⟨by rfl, ?_⟩) (by assumption) ?_
                      rotate_left
                      · (intro w hSw; (try dsimp only at hSw); go_simp; try with_reducible rfl)
                      try simp only [Act.put, List.getElem_toArray, List.getElem_cons_zero, List.getElem_cons_succ, List.setIfInBounds_toArray, List.set_cons_zero, List.set_cons_succ]
                      refine wpAnyH_take (i := 12) (oi := _) (v := ?_) rfl (by kernel_rfl) (by kernel_rfl) (by kernel_rfl) (fun _ _ _ h => h) (Or.inl ⟨by rfl, ?_⟩) (by assumption) ?_
                      rotate_left
                      · (intro w hSw; (try dsimp only at hSw); go_simp; try with_reducible rfl)
                      try simp only [Act.put, List.getElem_toArray, List.getElem_cons_zero, List.getElem_cons_succ, List.setIfInBounds_toArray, List.set_cons_zero, List.set_cons_succ]
                      refine wpAnyH_take (i := 13) (oi := _) (v := ?_) rfl (by kernel_rfl) (by kernel_rfl) (by kernel_rfl) (fun _ _ _ h => h) (Or.inl ⟨by rfl, ?_⟩) (by assumption) ?_
                      rotate_left
                      · (intro w hSw; (try dsimp only at hSw); go_simp; try with_reducible rfl)
                      try simp only [Act.put, List.getElem_toArray, List.getElem_cons_zero, List.getElem_cons_succ, List.setIfInBounds_toArray, List.set_cons_zero, List.set_cons_succ]
                      refine wpAnyH_ready (rs := [15]) (by kernel_rfl) (by simp) ?_
                      refine (AllReadyH.cons (o := _) rfl (fun K hK => ?_) AllReadyH.nil)
                      obtain ⟨z0, z1, z2, zf0, zf1, zf2, zlt⟩ := hx.three
                      go_simp
                      try clear hHeld
                      refine hK.out _ _ (by (try dsimp only); first | exact (HSS.out _ (HAny.out _ hB6)).1 | exact (HSS.out _ (HAny.out _ (Below.allocA hB6 _))).1 | exact (HSS.out _ hP8.hb).1 | exact (HSS.out _ (Below.alloc hP8.hb hP8.hb.size _)).1 | exact (HSS.out _ (Below.put3 hP8.hb (Nat.le_trans hs6 hqx) _ _ _)).1) (fun hHeld => ?_)
                      clear hK K
                      try simp only [Act.put, List.getElem_toArray, List.getElem_cons_zero, List.getElem_cons_succ, List.setIfInBounds_toArray, List.set_cons_zero, List.set_cons_succ]
                      clear z0 z1 z2 zf0 zf1 zf2 zlt
                      refine wpAnyH_take (i := 16) (oi := _) (v := ?_) rfl (by kernel_rfl) (by kernel_rfl) (by kernel_rfl) (fun _ _ _ h => h) (Or.inl ⟨by rfl, ?_⟩) (by assumption) ?_
                      rotate_left
                      · (intro w hSw; (try dsimp only at hSw); go_simp; try with_reducible rfl)
                      try simp only [Act.put, List.getElem_toArray, List.getElem_cons_zero, List.getElem_cons_succ, List.setIfInBounds_toArray, List.set_cons_zero, List.set_cons_succ]
                      refine wpAnyH_take (i := 17) (oi := _) (v := ?_) rfl (by kernel_rfl) (by kernel_rfl) (by kernel_rfl) (fun _ _ _ h => h) (Or.inl ⟨by rfl, ?_⟩) (by assumption) ?_
                      rotate_left
                      · (intro w hSw; (try dsimp only at hSw); go_simp; try with_reducible rfl)
                      try simp only [Act.put, List.getElem_toArray, List.getElem_cons_zero, List.getElem_cons_succ, List.setIfInBounds_toArray, List.set_cons_zero, List.set_cons_succ]
                      refine wpAnyH_done (by kernel_rfl) ?_ _
                      go_wp2
                      go_meet
                      exact ⟨rfl, rfl, qx, A8, d8, rfl, hx.put3 _ _ _, hby8.put3 (hby8.ne3 hx) _ _ _, (hP8.put3 hx (by decide) (by decide) (Nat.le_trans hs6 hqx) _ _ _).swap, hk5.below (Below.put3 (Below.refl w6.heap.size W) hqx _ _ _) h56⟩
                  · skip
                    go_simp
                    obtain ⟨qx, hqx'⟩ : ∃ n, n = W.heap.size := ⟨_, rfl⟩
                    rw [← hqx']
                    try clear hHeld
                    refine hK.out _ _ (by (try dsimp only); first | exact (HSS.out _ (HAny.out _ hB6)).1 | exact (HSS.out _ (HAny.out _ (Below.allocA hB6 _))).1 | exact (HSS.out _ hP8.hb).1 | exact (HSS.out _ (Below.alloc hP8.hb hP8.hb.size _)).1 | exact (HSS.out _ (Below.put3 hP8.hb (Nat.le_trans hs6 hqx) _ _ _)).1) (fun hHeld => ?_)
                    clear hK K
                    try simp only [Act.put, List.getElem_toArray, List.getElem_cons_zero, List.getElem_cons_succ, List.setIfInBounds_toArray, List.set_cons_zero, List.set_cons_succ]
                    generalize hw : World.alloc W _ = W at hHeld ⊢
                    have hx := Blk.newTo hw hqx'
                    have hqx : w6.heap.size ≤ qx := by rw [hqx']; exact h6s
                    try replace hown := ownTo hown hw
                    try replace hB6 := Below.allocTo hB6 hw
                    try replace hby := hby.allocTo hw
                    try replace hby8 := hby8.allocTo hw
                    try replace hP8 := hP8.allocTo hw
                    replace h6s := sizeTo h6s hw
                    replace hk5 := hk5.allocTo hw
                    clear hw hqx'
                    refine wpAnyH_ready (rs := [7]) (by kernel_rfl) (by simp) ?_
                    refine (AllReadyH.cons (o := _) rfl (fun K hK => ?_) AllReadyH.nil)
                    refine step_append_src _ (by rfl) _ _ 27 27 (by rfl) w6.heap.size 5 i0 (.int .u8 0) 1 1 Try.underlying27 hi hz0 hz1 hz2 rfl _ 0 [] (by rfl) hown (.slice A2 d.length n2) d.length (bvs d) (by rfl) (HSrc.out _ hB6) (by unfold maxLen; omega) (by omega) h6s ?_
                    intro v' W hown7 hgrow hat
                    have hown8 : W.ownsRow w6.heap.size 5 1 v' d.length (bvs d) := by simpa using hown7
                    obtain ⟨A7, c7, rfl⟩ := own_form hown8
                    replace hk5 := hk5.grown hgrow (fun e => own_ne_blk hown hk5 (by decide) e.symm)
                    try replace hx := hx.grown hgrow (fun e => own_ne_blk hown hx (by decide) e.symm)
                    replace hB6 := hB6.grown hgrow h6s (fun k hk => (hown.lt k hk).1)
                    replace h6s := hB6.size
                    have hby := Byts.of_own hown8
                    clear hown hown7 hown8 hgrow hat
                    try clear hHeld
                    refine hK.out _ _ (by (try dsimp only); first | exact (HSS.out _ (HAny.out _ hB6)).1 | exact (HSS.out _ (HAny.out _ (Below.allocA hB6 _))).1 | exact (HSS.out _ hP8.hb).1 | exact (HSS.out _ (Below.alloc hP8.hb hP8.hb.size _)).1 | exact (HSS.out _ (Below.put3 hP8.hb (Nat.le_trans hs6 hqx) _ _ _)).1) (fun hHeld => ?_)
                    clear hK K
                    try simp only [Act.put, List.getElem_toArray, List.getElem_cons_zero, List.getElem_cons_succ, List.setIfInBounds_toArray, List.set_cons_zero, List.set_cons_succ]
                    refine wpAnyH_take (i := 8) (oi := _) (v := ?_) rfl (by kernel_rfl) (by kernel_rfl) (by kernel_rfl) (fun _ _ _ h => h) (Or.inl ⟨by rfl, ?_⟩) (by assumption) ?_
                    rotate_left
                    · (intro w hSw; (try dsimp only at hSw); go_simp; try with_reducible rfl)
                    try simp only [Act.put, List.getElem_toArray, List.getElem_cons_zero, List.getElem_cons_succ, List.setIfInBounds_toArray, List.set_cons_zero, List.set_cons_succ]
                    refine wpAnyH_ready (rs := [9]) (by kernel_rfl) (by simp) ?_
                    refine (AllReadyH.cons (o := _) rfl (fun K hK => ?_) AllReadyH.nil)
                    go_simp
                    refine (HC3.out A7 c7 W hB6 hby).mono ?_
                    rintro e W ⟨A8, d8, rfl, hq8⟩
                    obtain ⟨hP8, hby8, hsz8, hfar8, _⟩ := hq8.out
                    replace hk5 := hfar8 _ _ _ (by decide) (by decide) hk5
                    try replace hx := hfar8 _ _ _ (by decide) (by decide) hx
                    replace h6s := Nat.le_trans h6s hsz8
                    clear hB6 hby hfar8 hq8 hsz8
                    try clear hHeld
                    refine hK.out _ _ (by (try dsimp only); first | exact (HSS.out _ (HAny.out _ hB6)).1 | exact (HSS.out _ (HAny.out _ (Below.allocA hB6 _))).1 | exact (HSS.out _ hP8.hb).1 | exact (HSS.out _ (Below.alloc hP8.hb hP8.hb.size _)).1 | exact (HSS.out _ (Below.put3 hP8.hb (Nat.le_trans hs6 hqx) _ _ _)).1) (fun hHeld => ?_)
                    clear hK K
                    try simp only [Act.put, List.getElem_toArray, List.getElem_cons_zero, List.getElem_cons_succ, List.setIfInBounds_toArray, List.set_cons_zero, List.set_cons_succ]
                    refine wpAnyH_take (i := 10) (oi := _) (v := ?_) rfl (by kernel_rfl) (by kernel_rfl) (by kernel_rfl) (fun _ _ _ h => h) (Or.inl ⟨by rfl, ?_⟩) (by assumption) ?_
                    rotate_left
                    · (intro w hSw; (try dsimp only at hSw); go_simp; try with_reducible rfl)
                    try simp only [Act.put, List.getElem_toArray, List.getElem_cons_zero, List.getElem_cons_succ, List.setIfInBounds_toArray, List.set_cons_zero, List.set_cons_succ]
                    refine wpAnyH_take (i := 11) (oi := _) (v := ?_) rfl (by kernel_rfl) (by kernel_rfl) (by kernel_rfl) (fun _ _ _ h => h) (Or.inl ⟨by rfl, ?_⟩) (by assumption) ?_
                    rotate_left
                    · (intro w hSw; (try dsimp only at hSw); go_simp; try with_reducible rfl)
                    try simp only [Act.put, List.getElem_toArray, List.getElem_cons_zero, List.getElem_cons_succ, List.setIfInBounds_toArray, List.set_cons_zero, List.set_cons_succ]
                    refine wpAnyH_take (i := 12) (oi := _) (v := ?_) rfl (by kernel_rfl) (by kernel_rfl) (by kernel_rfl) (fun _ _ _ h => h) (Or.inl ⟨by rfl, ?_⟩) (by assumption) ?_
                    rotate_left
                    · (intro w hSw; (try dsimp only at hSw); go_simp; try with_reducible rfl)
                    try simp only [Act.put, List.getElem_toArray, List.getElem_cons_zero, List.getElem_cons_succ, List.setIfInBounds_toArray, List.set_cons_zero, List.set_cons_succ]
                    refine wpAnyH_take (i := 13) (oi := _) (v := ?_) rfl (by kernel_rfl) (by kernel_rfl) (by kernel_rfl) (fun _ _ _ h => h) (Or.inl ⟨by rfl, ?_⟩) (by assumption) ?_
                    rotate_left
                    · (intro w hSw; (try dsimp only at hSw); go_simp; try with_reducible rfl)
                    try simp only [Act.put, List.getElem_toArray, List.getElem_cons_zero, List.getElem_cons_succ, List.setIfInBounds_toArray, List.set_cons_zero, List.set_cons_succ]
                    refine wpAnyH_ready (rs := [15]) (by kernel_rfl) (by simp) ?_
                    refine (AllReadyH.cons (o := _) rfl (fun K hK => ?_) AllReadyH.nil)
                    obtain ⟨z0, z1, z2, zf0, zf1, zf2, zlt⟩ := hx.three
                    go_simp
                    try clear hHeld
                    refine hK.out _ _ (by (try dsimp only); first | exact (HSS.out _ (HAny.out _ hB6)).1 | exact (HSS.out _ (HAny.out _ (Below.allocA hB6 _))).1 | exact (HSS.out _ hP8.hb).1 | exact (HSS.out _ (Below.alloc hP8.hb hP8.hb.size _)).1 | exact (HSS.out _ (Below.put3 hP8.hb (Nat.le_trans hs6 hqx) _ _ _)).1) (fun hHeld => ?_)
                    clear hK K
                    try simp only [Act.put, List.getElem_toArray, List.getElem_cons_zero, List.getElem_cons_succ, List.setIfInBounds_toArray, List.set_cons_zero, List.set_cons_succ]
                    clear z0 z1 z2 zf0 zf1 zf2 zlt
                    refine wpAnyH_take (i := 16) (oi := _) (v := ?_) rfl (by kernel_rfl) (by kernel_rfl) (by kernel_rfl) (fun _ _ _ h => h) (Or.inl ⟨by rfl, ?_⟩) (by assumption) ?_
                    rotate_left
                    · (intro w hSw; (try dsimp only at hSw); go_simp; try with_reducible rfl)
                    try simp only [Act.put, List.getElem_toArray, List.getElem_cons_zero, List.getElem_cons_succ, List.setIfInBounds_toArray, List.set_cons_zero, List.set_cons_succ]
                    refine wpAnyH_take (i := 17) (oi := _) (v := ?_) rfl (by kernel_rfl) (by kernel_rfl) (by kernel_rfl) (fun _ _ _ h => h) (Or.inl ⟨by rfl, ?_⟩) (by assumption) ?_
                    rotate_left
                    · (intro w hSw; (try dsimp only at hSw); go_simp; try with_reducible rfl)
                    try simp only [Act.put, List.getElem_toArray, List.getElem_cons_zero, List.getElem_cons_succ, List.setIfInBounds_toArray, List.set_cons_zero, List.set_cons_succ]
                    refine wpAnyH_done (by kernel_rfl) ?_ _
                    go_wp2
                    go_meet
                    exact ⟨rfl, rfl, qx, A8, d8, rfl, hx.put3 _ _ _, hby8.put3 (hby8.ne3 hx) _ _ _, (hP8.put3 hx (by decide) (by decide) (Nat.le_trans hs6 hqx) _ _ _).swap, hk5.below (Below.put3 (Below.refl w6.heap.size W) hqx _ _ _) h56⟩
                · skip
                  go_simp
                  obtain ⟨qx, hqx'⟩ : ∃ n, n = W.heap.size := ⟨_, rfl⟩
                  rw [← hqx']
                  try clear hHeld
                  refine hK.out _ _ (by (try dsimp only); first | exact (HSS.out _ (HAny.out _ hB6)).1 | exact (HSS.out _ (HAny.out _ (Below.allocA hB6 _))).1 | exact (HSS.out _ hP8.hb).1 | exact (HSS.out _ (Below.alloc hP8.hb hP8.hb.size _)).1 | exact (HSS.out _ (Below.put3 hP8.hb (Nat.le_trans hs6 hqx) _ _ _)).1) (fun hHeld => ?_)
                  clear hK K
                  try simp only [Act.put, List.getElem_toArray, List.getElem_cons_zero, List.getElem_cons_succ, List.setIfInBounds_toArray, List.set_cons_zero, List.set_cons_succ]
                  generalize hw : World.alloc W _ = W at hHeld ⊢
                  have hx := Blk.newTo hw hqx'
                  have hqx : w6.heap.size ≤ qx := by rw [hqx']; exact h6s
                  try replace hown := ownTo hown hw
                  try replace hB6 := Below.allocTo hB6 hw
                  try replace hby := hby.allocTo hw
                  try replace hby8 := hby8.allocTo hw
                  try replace hP8 := hP8.allocTo hw
                  replace h6s := sizeTo h6s hw
                  replace hk5 := hk5.allocTo hw
                  clear hw hqx'
                  refine wpAnyH_ready (rs := [5]) (by kernel_rfl) (by simp) ?_
                  refine (AllReadyH.cons (o := _) rfl (fun K hK => ?_) AllReadyH.nil)
                  go_simp
                  try clear hHeld
                  refine hK.out _ _ (by (try dsimp only); first | exact (HSS.out _ (HAny.out _ hB6)).1 | exact (HSS.out _ (HAny.out _ (Below.allocA hB6 _))).1 | exact (HSS.out _ hP8.hb).1 | exact (HSS.out _ (Below.alloc hP8.hb hP8.hb.size _)).1 | exact (HSS.out _ (Below.put3 hP8.hb (Nat.le_trans hs6 hqx) _ _ _)).1) (fun hHeld => ?_)
                  clear hK K
                  try simp only [Act.put, List.getElem_toArray, List.getElem_cons_zero, List.getElem_cons_succ, List.setIfInBounds_toArray, List.set_cons_zero, List.set_cons_succ]
                  generalize hw : World.alloc W _ = W at hHeld ⊢
                  have hown := ownLit h6s hw
                  replace hB6 := Below.allocTo hB6 hw
                  replace h6s := sizeTo h6s hw
                  replace hk5 := hk5.allocTo hw
                  try replace hx := hx.allocTo hw
                  clear hw
                  refine wpAnyH_ready (rs := [7]) (by kernel_rfl) (by simp) ?_
                  refine (AllReadyH.cons (o := _) rfl (fun K hK => ?_) AllReadyH.nil)
                  refine step_append_src _ (by rfl) _ _ 27 27 (by rfl) w6.heap.size 5 i0 (.int .u8 0) 1 1 Try.underlying27 hi hz0 hz1 hz2 rfl _ 0 [] (by rfl) hown (.slice A2 d.length n2) d.length (bvs d) (by rfl) (HSrc.out _ hB6) (by unfold maxLen; omega) (by omega) h6s ?_
                  intro v' W hown7 hgrow hat
                  have hown8 : W.ownsRow w6.heap.size 5 1 v' d.length (bvs d) := by simpa using hown7
                  obtain ⟨A7, c7, rfl⟩ := own_form hown8
                  replace hk5 := hk5.grown hgrow (fun e => own_ne_blk hown hk5 (by decide) e.symm)
                  try replace hx := hx.grown hgrow (fun e => own_ne_blk hown hx (by decide) e.symm)
                  replace hB6 := hB6.grown hgrow h6s (fun k hk => (hown.lt k hk).1)
                  replace h6s := hB6.size
                  have hby := Byts.of_own hown8
                  clear hown hown7 hown8 hgrow hat
                  try clear hHeld
                  refine hK.out _ _ (by (try dsimp only); first | exact (HSS.out _ (HAny.out _ hB6)).1 | exact (HSS.out _ (HAny.out _ (Below.allocA hB6 _))).1 | exact (HSS.out _ hP8.hb).1 | exact (HSS.out _ (Below.alloc hP8.hb hP8.hb.size _)).1 | exact (HSS.out _ (Below.put3 hP8.hb (Nat.le_trans hs6 hqx) _ _ _)).1) (fun hHeld => ?_)
                  clear hK K
                  try simp only [Act.put, List.getElem_toArray, List.getElem_cons_zero, List.getElem_cons_succ, List.setIfInBounds_toArray, List.set_cons_zero, List.set_cons_succ]
                  refine wpAnyH_take (i := 8) (oi := _) (v := ?_) rfl (by kernel_rfl) (by kernel_rfl) (by kernel_rfl) (fun _ _ _ h => h) (Or.inl ⟨by rfl, ?_⟩) (by assumption) ?_
                  rotate_left
                  · (intro w hSw; (try dsimp only at hSw); go_simp; try with_reducible rfl)
                  try simp only [Act.put, List.getElem_toArray, List.getElem_cons_zero, List.getElem_cons_succ, List.setIfInBounds_toArray, List.set_cons_zero, List.set_cons_succ]
                  refine wpAnyH_ready (rs := [9]) (by kernel_rfl) (by simp) ?_
                  refine (AllReadyH.cons (o := _) rfl (fun K hK => ?_) AllReadyH.nil)
                  go_simp
                  refine (HC3.out A7 c7 W hB6 hby).mono ?_
                  rintro e W ⟨A8, d8, rfl, hq8⟩
                  obtain ⟨hP8, hby8, hsz8, hfar8, _⟩ := hq8.out
                  replace hk5 := hfar8 _ _ _ (by decide) (by decide) hk5
                  try replace hx := hfar8 _ _ _ (by decide) (by decide) hx
                  replace h6s := Nat.le_trans h6s hsz8
                  clear hB6 hby hfar8 hq8 hsz8
                  try clear hHeld
                  refine hK.out _ _ (by (try dsimp only); first | exact (HSS.out _ (HAny.out _ hB6)).1 | exact (HSS.out _ (HAny.out _ (Below.allocA hB6 _))).1 | exact (HSS.out _ hP8.hb).1 | exact (HSS.out _ (Below.alloc hP8.hb hP8.hb.size _)).1 | exact (HSS.out _ (Below.put3 hP8.hb (Nat.le_trans hs6 hqx) _ _ _)).1) (fun hHeld => ?_)
                  clear hK K
                  try simp only [Act.put, List.getElem_toArray, List.getElem_cons_zero, List.getElem_cons_succ, List.setIfInBounds_toArray, List.set_cons_zero, List.set_cons_succ]
                  refine wpAnyH_take (i := 10) (oi := _) (v := ?_) rfl (by kernel_rfl) (by kernel_rfl) (by kernel_rfl) (fun _ _ _ h => h) (Or.inl ⟨by rfl, ?_⟩) (by assumption) ?_
                  rotate_left
                  · (intro w hSw; (try dsimp only at hSw); go_simp; try with_reducible rfl)
                  try simp only [Act.put, List.getElem_toArray, List.getElem_cons_zero, List.getElem_cons_succ, List.setIfInBounds_toArray, List.set_cons_zero, List.set_cons_succ]
                  refine wpAnyH_take (i := 11) (oi := _) (v := ?_) rfl (by kernel_rfl) (by kernel_rfl) (by kernel_rfl) (fun _ _ _ h => h) (Or.inl ⟨by rfl, ?_⟩) (by assumption) ?_
                  rotate_left
                  · (intro w hSw; (try dsimp only at hSw); go_simp; try with_reducible rfl)
                  try simp only [Act.put, List.getElem_toArray, List.getElem_cons_zero, List.getElem_cons_succ, List.setIfInBounds_toArray, List.set_cons_zero, List.set_cons_succ]
                  refine wpAnyH_take (i := 12) (oi := _) (v := ?_) rfl (by kernel_rfl) (by kernel_rfl) (by kernel_rfl) (fun _ _ _ h => h) (Or.inl ⟨by rfl, ?_⟩) (by assumption) ?_
                  rotate_left
                  · (intro w hSw; (try dsimp only at hSw); go_simp; try with_reducible rfl)
                  try simp only [Act.put, List.getElem_toArray, List.getElem_cons_zero, List.getElem_cons_succ, List.setIfInBounds_toArray, List.set_cons_zero, List.set_cons_succ]
                  refine wpAnyH_take (i := 13) (oi := _) (v := ?_) rfl (by kernel_rfl) (by kernel_rfl) (by kernel_rfl) (fun _ _ _ h => h) (Or.inl ⟨by rfl, ?_⟩) (by assumption) ?_
                  rotate_left
                  · (intro w hSw; (try dsimp only at hSw); go_simp; try with_reducible rfl)
                  try simp only [Act.put, List.getElem_toArray, List.getElem_cons_zero, List.getElem_cons_succ, List.setIfInBounds_toArray, List.set_cons_zero, List.set_cons_succ]
                  refine wpAnyH_ready (rs := [15]) (by kernel_rfl) (by simp) ?_
                  refine (AllReadyH.cons (o := _) rfl (fun K hK => ?_) AllReadyH.nil)
                  obtain ⟨z0, z1, z2, zf0, zf1, zf2, zlt⟩ := hx.three
                  go_simp
                  try clear hHeld
                  refine hK.out _ _ (by (try dsimp only); first | exact (HSS.out _ (HAny.out _ hB6)).1 | exact (HSS.out _ (HAny.out _ (Below.allocA hB6 _))).1 | exact (HSS.out _ hP8.hb).1 | exact (HSS.out _ (Below.alloc hP8.hb hP8.hb.size _)).1 | exact (HSS.out _ (Below.put3 hP8.hb (Nat.le_trans hs6 hqx) _ _ _)).1) (fun hHeld => ?_)
                  clear hK K
                  try simp only [Act.put, List.getElem_toArray, List.getElem_cons_zero, List.getElem_cons_succ, List.setIfInBounds_toArray, List.set_cons_zero, List.set_cons_succ]
                  clear z0 z1 z2 zf0 zf1 zf2 zlt
                  refine wpAnyH_take (i := 16) (oi := _) (v := ?_) rfl (by kernel_rfl) (by kernel_rfl) (by kernel_rfl) (fun _ _ _ h => h) (Or.inl ⟨by rfl, ?_⟩) (by assumption) ?_
                  rotate_left
                  · (intro w hSw; (try dsimp only at hSw); go_simp; try with_reducible rfl)
                  try simp only [Act.put, List.getElem_toArray, List.getElem_cons_zero, List.getElem_cons_succ, List.setIfInBounds_toArray, List.set_cons_zero, List.set_cons_succ]
                  refine wpAnyH_take (i := 17) (oi := _) (v := ?_) rfl (by kernel_rfl) (by kernel_rfl) (by kernel_rfl) (fun _ _ _ h => h) (Or.inl ⟨by rfl, ?_⟩) (by assumption) ?_
                  rotate_left
                  · (intro w hSw; (try dsimp only at hSw); go_simp; try with_reducible rfl)
                  try simp only [Act.put, List.getElem_toArray, List.getElem_cons_zero, List.getElem_cons_succ, List.setIfInBounds_toArray, List.set_cons_zero, List.set_cons_succ]
                  refine wpAnyH_done (by kernel_rfl) ?_ _
                  go_wp2
                  go_meet
                  exact ⟨rfl, rfl, qx, A8, d8, rfl, hx.put3 _ _ _, hby8.put3 (hby8.ne3 hx) _ _ _, (hP8.put3 hx (by decide) (by decide) (Nat.le_trans hs6 hqx) _ _ _).swap, hk5.below (Below.put3 (Below.refl w6.heap.size W) hqx _ _ _) h56⟩
              case rest =>
                obtain ⟨rfl, rfl, mb2, A7, c7, rfl, hM2, hB7, hP7, hK7⟩ := hcut
                obtain ⟨k0, k1, k2, _, _, _, klt⟩ := hK7.three
                obtain ⟨M0, M1, M2, _, _, _, Mlt⟩ := hM2.three
                obtain ⟨hz7, hs7⟩ := HSS.out _ hP7.hb
                have hv1 := fun n => conv_bytes (w := wc.drewN n) (show Byts (wc.drewN n) A7 d from hB7) c7
                have hv2 := fun n => conv_bytes (w := wc.drewN n) (show Byts (wc.drewN n) A2 d from (show Byts wc A2 d from HD.out.below hP7.hb (Nat.le_refl _))) n2
                have HP7 := Lib.hid hP7
                clear hP7 hB7 hM2 hK7
                go_wp2_with fail
                go_quiet (fail)
                go_wp2_with fail
                exact ⟨⟨j + 1, by omega, by go_num, cs', hm', HP7.out.below ⟨rfl, rfl, rfl, Nat.le_refl _, fun _ _ => rfl⟩⟩, by simp [intOf]; omega⟩
            · have hnb : (n != 0) = true := by simpa using hn0
              have hcc : cs' = cs := by rw [HE.out.2.2.2.2, if_neg (by rw [← HE.out.2.2.1]; exact hn0)]
              subst hcc
              clear hn0 HE hM hMB
              go_wp2
              go_roundw
              case rel => exact ⟨j + 1, by omega, by go_num, _, hm, HP4.out⟩
              case measure => simp [intOf]; omega
        · have e1 : decide ((ss.length : Int) ≤ j) = false := by simpa using hl
          have e2 : decide ((20 : Int) ≤ j) = true := by simp; omega
          obtain ⟨⟨v1, v2, h1, h2, h3⟩, hne, hbb⟩ := HR.out
          go_wp2_with (first | (go_at_call 11; refine (c11 _ _ v1 cs _ h1).mono ?_; rintro e w' ⟨rfl, hw'⟩; subst w') | (go_at_call 11; refine (c11 _ _ v2 cs _ h2).mono ?_; rintro e w' ⟨rfl, hw'⟩; subst w'))
          go_ret
          exact ⟨rfl, hbb⟩
      · have e1 : decide ((ss.length : Int) ≤ j) = true := by simpa using hl
        obtain ⟨⟨v1, v2, h1, h2, h3⟩, hne, hbb⟩ := HR.out
        go_wp2_with (first | (go_at_call 11; refine (c11 _ _ v1 cs _ h1).mono ?_; rintro e w' ⟨rfl, hw'⟩; subst w') | (go_at_call 11; refine (c11 _ _ v2 cs _ h2).mono ?_; rintro e w' ⟨rfl, hw'⟩; subst w'))
        go_ret
        exact ⟨rfl, hbb⟩
    · have hk2 : (zs.length : Int) ≤ j := by omega
      obtain ⟨⟨v1, v2, h1, h2, h3⟩, hne, hbb⟩ := HR.out
      go_wp2_with (first | (go_at_call 11; refine (c11 _ _ v1 cs _ h1).mono ?_; rintro e w' ⟨rfl, hw'⟩; subst w') | (go_at_call 11; refine (c11 _ _ v2 cs _ h2).mono ?_; rintro e w' ⟨rfl, hw'⟩; subst w'))
      go_ret
      exact ⟨rfl, hbb⟩
end Go.Proofs.Ytpfacfolocjidaa
