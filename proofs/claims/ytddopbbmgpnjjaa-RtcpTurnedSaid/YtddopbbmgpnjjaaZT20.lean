/- part. -/
import Derived.Test.YtddopbbmgpnjjaaZT19
namespace Go.Proofs.Ytddopbbmgpnjjaa
set_option linter.unusedSimpArgs false
open Go.RowKit
set_option maxRecDepth 8000 in
set_option maxHeartbeats 8000000 in
theorem stableC (I : Zh) (M : List Zt) (w : World) (g c B n : Nat) (base : Int) (l : List Int) (hn : l.length = n) (hn1 : n <= 1000000) (hr : Rng l) (ZX : Y8 I M g c B base l w) :
  Calls Try.prog 72 #[.slice (some ⟨g, 0, none⟩) n c, .int .i64 n, .func (.func 65) #[] #[.pointer (some ⟨B, 0, none⟩)]] w (Does I M g c B base l) := by
 have HS := VL ZX
 have HR := VL hr
 have HN := VL hn
 clear ZX hr hn
 go_enter Try.func72, Try.ntmps72
 go_upto_region 2 with fail
 go_loopw [7, 8] (fun av bv wr => ∃ a b : Nat, av = .int .i64 a /\ bv = .int .i64 b /\ b = a + 20 /\ a <= n /\ Hid (∃ l1, Kept base l l1 /\ Y8 I M g c B base l1 wr)) (fun av _ _ => n - (intOf av).toNat)
 case atStart => exact ⟨0, 20, by go_num, by go_num, rfl, by omega, VL ⟨l, .refl HR.out, HS.out⟩⟩
 case round =>
  obtain ⟨a, b, rfl, rfl, hab, han, hh⟩ := hrel
  clear HS
  obtain ⟨l1, hk, hs⟩ := hh.out
  clear hh
  have HK := VL hk
  by_cases hbn : b <= n
  ·have hbn2 : (b : Int) <= (n : Int) := by omega
   have HC := VL (insertC I M wr g c B n base l1 a b (by rw [hk.len, HN.out]) (by omega) hbn hn1 hk.rng hs)
   have HAB := VL hab
   clear hk hs hab
   go_wp2_with fail
   go_at_call 73
   refine HC.out.mono ?_
   clear HC
   rintro e w2 ⟨rfl, l2, hk2, YN⟩
   have HF := VL (show ∃ l1, Kept base l l1 /\ Y8 I M g c B base l1 w2 from ⟨l2, HK.out.trans hk2, YN⟩)
   clear hk2 YN
   go_wp2
   go_roundw
   case rel => exact ⟨b, b + 20, rfl, by go_num, rfl, hbn, HF⟩
   case measure => have := HAB.out; simp [intOf]; omega
  have hbn2 : ¬ ((b : Int) <= (n : Int)) := by omega
  have HC := VL (insertC I M wr g c B n base l1 a n (by rw [hk.len, HN.out]) han (Nat.le_refl _) hn1 hk.rng hs)
  clear hk hs hab
  go_wp2_with fail
  go_at_call 73
  refine HC.out.mono ?_
  clear HC
  rintro e w2 ⟨rfl, l2, hk2, YN⟩
  have HF := VL (show ∃ l1, Kept base l l1 /\ Y8 I M g c B base l1 w2 from ⟨l2, HK.out.trans hk2, YN⟩)
  clear hk2 YN HK
  go_upto_region 7 with fail
  go_loopw [6] (fun sv wr => ∃ s : Nat, sv = .int .i64 s /\ 20 <= s /\ s <= 2000000 /\ Hid (∃ l1, Kept base l l1 /\ Y8 I M g c B base l1 wr)) (fun sv _ => n - (intOf sv).toNat)
  case atStart => exact ⟨20, by go_num, by omega, by omega, HF⟩
  case round =>
   obtain ⟨s, rfl, hs20, hs2m, hh⟩ := hrel
   clear HF
   by_cases hsn : s < n
   ·have hsn2 : (s : Int) < (n : Int) := by omega
    go_upto_region 9 with fail
    go_loopw [7, 8] (fun av bv wr => ∃ a b : Nat, av = .int .i64 a /\ bv = .int .i64 b /\ b = a + 2 * s /\ a <= n /\ Hid (∃ l1, Kept base l l1 /\ Y8 I M g c B base l1 wr)) (fun av _ _ => n - (intOf av).toNat)
    case atStart => exact ⟨0, 2 * s, by go_num, by go_num, by omega, by omega, hh⟩
    case round =>
     obtain ⟨a, b, rfl, rfl, hab, han, hh⟩ := hrel
     obtain ⟨l1, hk, hs⟩ := hh.out
     clear hh
     have HK := VL hk
     obtain ⟨m, hm⟩ : ∃ m, m = a + s := ⟨_, rfl⟩
     have hmi : (a : Int) + (s : Int) = (m : Int) := by omega
     by_cases hbn : b <= n
     ·have hbn2 : (b : Int) <= (n : Int) := by omega
      have HC := VL (symC I M g c B n base hn1 (b - a) l1 wr a m b (Nat.le_refl _) (by rw [hk.len, HN.out]) (by omega) (by omega) hbn hk.rng hs)
      have HAB := VL (And.intro hab hm)
      clear hk hs hab hm
      go_wp2_with fail
      go_at_call 74
      refine HC.out.mono ?_
      clear HC
      rintro e w2 ⟨rfl, l2, hk2, YN⟩
      have HF := VL (show ∃ l1, Kept base l l1 /\ Y8 I M g c B base l1 w2 from ⟨l2, HK.out.trans hk2, YN⟩)
      clear hk2 YN
      go_wp2
      go_roundw
      case rel => exact ⟨b, b + 2 * s, rfl, by go_num, rfl, hbn, HF⟩
      case measure => have := HAB.out; simp [intOf]; omega
     have hbn2 : ¬ ((b : Int) <= (n : Int)) := by omega
     by_cases hmn : m < n
     ·have hmn2 : (m : Int) < (n : Int) := by omega
      have HC := VL (symC I M g c B n base hn1 (n - a) l1 wr a m n (Nat.le_refl _) (by rw [hk.len, HN.out]) (by omega) hmn (Nat.le_refl _) hk.rng hs)
      clear hk hs hab hm
      go_wp2_with fail
      go_at_call 74
      refine HC.out.mono ?_
      clear HC
      rintro e w2 ⟨rfl, l2, hk2, YN⟩
      have HF := VL (show ∃ l1, Kept base l l1 /\ Y8 I M g c B base l1 w2 from ⟨l2, HK.out.trans hk2, YN⟩)
      clear hk2 YN
      go_wp2
      go_roundw
      case rel => exact ⟨2 * s, by go_num, by omega, by omega, HF⟩
      case measure => simp [intOf]; omega
     have hmn2 : ¬ ((m : Int) < (n : Int)) := by omega
     have HF := VL (show ∃ l1, Kept base l l1 /\ Y8 I M g c B base l1 wr from ⟨l1, hk, hs⟩)
     clear hk hs hab hm
     go_wp2
     go_roundw
     case rel => exact ⟨2 * s, by go_num, by omega, by omega, HF⟩
     case measure => simp [intOf]; omega
   have hsn2 : ¬ ((s : Int) < (n : Int)) := by omega
   have hf : ∃ l', Kept base l l' /\ Y8 I M g c B base l' wr := hh.out
   have HF := VL hf
   clear hf hh
   go_wp2
   go_returns
   exact ⟨rfl, HF.out⟩
set_option maxHeartbeats 2000000 in
theorem sortC (I : Zh) (M : List Zt) (w : World) (g c B : Nat) (base : Int) (l : List Int) (hn1 : l.length <= 1000000) (hr : Rng l) (ZX : Y8 I M g c B base l w) :
  Calls Try.prog 64 #[.slice (some ⟨g, 0, none⟩) l.length c, .func (.func 65) #[] #[.pointer (some ⟨B, 0, none⟩)]] w (Does I M g c B base l) := by
 have HC := VL (stableC I M w g c B l.length base l rfl hn1 hr ZX)
 clear ZX hr
 go_enter Try.func64, Try.ntmps64
 go_wp2_with fail
 go_at_call 72
 refine HC.out.mono ?_
 clear HC
 rintro e w2 ⟨rfl, hf⟩
 have HF := VL hf
 clear hf
 go_wp2
 go_returns
 exact ⟨rfl, HF.out⟩
theorem shape1 {p : Pk} (hg : Good p) (hk : p.kind = 1) : p = ⟨1, p.ZA, 0, p.ZN, p.ZP, p.ZI, p.ZJ, p.ZE, ⟨#[]⟩, [], [], 0, 0, 0, [], []⟩ /\ YH (Zu p) = ZM p.ZA ++ (ZM (p.ZN / 4294967296) ++ (ZM (p.ZN % 4294967296) ++ (ZM p.ZP ++ (ZM p.ZI ++ (ZM p.ZJ ++ p.ZE.flatMap YK))))) := by
 obtain ⟨kind, ZA, ZC, ZN, ZP, ZI, ZJ, ZE, name, ZG, ZH, base, ref, count, ZF, ZB⟩ := p
 simp only at hk
 subst hk
 have e := hg.2
 have e1 : (⟨1, ZA, ZC, ZN, ZP, ZI, ZJ, ZE, name, ZG, ZH, base, ref, count, ZF, ZB⟩ : Pk) = ⟨1, ZA, 0, ZN, ZP, ZI, ZJ, ZE, ⟨#[]⟩, [], [], 0, 0, 0, [], []⟩ := by
  rw [e]
  simp [YO]
 refine ⟨e1, ?_⟩
 rw [e1, VA] <;> simp [Zu, Xf, XG, Zy, YD Za, YD Wm, YD (f := ZM) (fun _ => Zy _), YD (f := XJ) (s := 4) (fun _ => rfl), YG] <;> try omega
theorem shape2 {p : Pk} (hg : Good p) (hk : p.kind = 2) : p = ⟨2, p.ZA, 0, 0, 0, 0, 0, p.ZE, ⟨#[]⟩, [], [], 0, 0, 0, [], []⟩ /\ YH (Zu p) = ZM p.ZA ++ p.ZE.flatMap YK := by
 obtain ⟨kind, ZA, ZC, ZN, ZP, ZI, ZJ, ZE, name, ZG, ZH, base, ref, count, ZF, ZB⟩ := p
 simp only at hk
 subst hk
 have e := hg.2
 have e1 : (⟨2, ZA, ZC, ZN, ZP, ZI, ZJ, ZE, name, ZG, ZH, base, ref, count, ZF, ZB⟩ : Pk) = ⟨2, ZA, 0, 0, 0, 0, 0, ZE, ⟨#[]⟩, [], [], 0, 0, 0, [], []⟩ := by
  rw [e]
  simp [YO]
 refine ⟨e1, ?_⟩
 rw [e1, VA] <;> simp [Zu, Xf, XG, Zy, YD Za, YD Wm, YD (f := ZM) (fun _ => Zy _), YD (f := XJ) (s := 4) (fun _ => rfl), YG] <;> try omega
theorem shape4 {p : Pk} (hg : Good p) (hk : p.kind = 4) : p = ⟨4, 0, 0, 0, 0, 0, 0, [], ⟨#[]⟩, p.ZG, [], 0, 0, 0, [], []⟩ /\ YH (Zu p) = p.ZG.flatMap ZM := by
 obtain ⟨kind, ZA, ZC, ZN, ZP, ZI, ZJ, ZE, name, ZG, ZH, base, ref, count, ZF, ZB⟩ := p
 simp only at hk
 subst hk
 have e := hg.2
 have e1 : (⟨4, ZA, ZC, ZN, ZP, ZI, ZJ, ZE, name, ZG, ZH, base, ref, count, ZF, ZB⟩ : Pk) = ⟨4, 0, 0, 0, 0, 0, 0, [], ⟨#[]⟩, ZG, [], 0, 0, 0, [], []⟩ := by
  rw [e]
  simp [YO]
 refine ⟨e1, ?_⟩
 rw [e1, VA] <;> simp [Zu, Xf, XG, Zy, YD Za, YD Wm, YD (f := ZM) (fun _ => Zy _), YD (f := XJ) (s := 4) (fun _ => rfl), YG] <;> try omega
theorem shape5 {p : Pk} (hg : Good p) (hk : p.kind = 5) : p = ⟨5, p.ZA, p.ZC, 0, 0, 0, 0, [], ⟨#[]⟩, [], p.ZH, 0, 0, 0, [], []⟩ /\ YH (Zu p) = ZM p.ZA ++ (ZM p.ZC ++ (XA p.ZH).flatMap XJ) := by
 obtain ⟨kind, ZA, ZC, ZN, ZP, ZI, ZJ, ZE, name, ZG, ZH, base, ref, count, ZF, ZB⟩ := p
 simp only at hk
 subst hk
 have e := hg.2
 have e1 : (⟨5, ZA, ZC, ZN, ZP, ZI, ZJ, ZE, name, ZG, ZH, base, ref, count, ZF, ZB⟩ : Pk) = ⟨5, ZA, ZC, 0, 0, 0, 0, [], ⟨#[]⟩, [], ZH, 0, 0, 0, [], []⟩ := by
  rw [e]
  simp [YO]
 refine ⟨e1, ?_⟩
 rw [e1, VA] <;> simp [Zu, Xf, XG, Zy, YD Za, YD Wm, YD (f := ZM) (fun _ => Zy _), YD (f := XJ) (s := 4) (fun _ => rfl), YG] <;> try omega
theorem shape8 {p : Pk} (hg : Good p) (hk : p.kind = 8) : p = ⟨8, p.ZA, p.ZC, 0, 0, 0, 0, [], ⟨#[]⟩, [], [], 0, 0, 0, [], p.ZB⟩ /\ YH (Zu p) = ZM p.ZA ++ (ZM p.ZC ++ p.ZB.flatMap XU) := by
 obtain ⟨kind, ZA, ZC, ZN, ZP, ZI, ZJ, ZE, name, ZG, ZH, base, ref, count, ZF, ZB⟩ := p
 simp only at hk
 subst hk
 have e := hg.2
 have e1 : (⟨8, ZA, ZC, ZN, ZP, ZI, ZJ, ZE, name, ZG, ZH, base, ref, count, ZF, ZB⟩ : Pk) = ⟨8, ZA, ZC, 0, 0, 0, 0, [], ⟨#[]⟩, [], [], 0, 0, 0, [], ZB⟩ := by
  rw [e]
  simp [YO]
 refine ⟨e1, ?_⟩
 rw [e1, VA] <;> simp [Zu, Xf, XG, Zy, YD Za, YD Wm, YD (f := ZM) (fun _ => Zy _), YD (f := XJ) (s := 4) (fun _ => rfl), YG] <;> try omega
theorem shape3 {p : Pk} (hg : Good p) (hk : p.kind = 3) : p = ⟨3, p.ZA, 0, 0, 0, 0, 0, [], p.name, [], [], 0, 0, 0, [], []⟩ /\ ∃ t, YH (Zu p) = ZM p.ZA ++ ([byteOf 1] ++ ([byteOf p.name.size] ++ (p.name.data.toList ++ t))) := by
 obtain ⟨kind, ZA, ZC, ZN, ZP, ZI, ZJ, ZE, name, ZG, ZH, base, ref, count, ZF, ZB⟩ := p
 simp only at hk
 subst hk
 have e := hg.2
 have e1 : (⟨3, ZA, ZC, ZN, ZP, ZI, ZJ, ZE, name, ZG, ZH, base, ref, count, ZF, ZB⟩ : Pk) = ⟨3, ZA, 0, 0, 0, 0, 0, [], name, [], [], 0, 0, 0, [], []⟩ := by
  rw [e]
  simp [YO]
 refine ⟨e1, ?_⟩
 rw [e1]
 exact ⟨[byteOf 0] ++ List.replicate ((4 - (Zu ⟨3, ZA, 0, 0, 0, 0, 0, [], name, [], [], 0, 0, 0, [], []⟩).length % 4) % 4) 0, by simp [YH, Zu, Xf, XG]⟩
theorem shape6 {p : Pk} (hg : Good p) (hk : p.kind = 6) : p = ⟨6, p.ZA, p.ZC, 0, 0, 0, 0, [], ⟨#[]⟩, [], [], p.base, p.ref, p.count, p.ZF, []⟩ /\ ∃ t, YH (Zu p) = ZM p.ZA ++ (ZM p.ZC ++ (Zi p.base ++ (Zi p.ZF.length ++ (ZM (p.ref * 256 + p.count) ++ (Xu p.ZF ((p.ZF.length + 6) / 7) ++ (p.ZF.flatMap XW ++ t)))))) := by
 have h1 : 0 < p.ZF.length := by
  have := hg.1
  unfold YF at this
  omega
 obtain ⟨kind, ZA, ZC, ZN, ZP, ZI, ZJ, ZE, name, ZG, ZH, base, ref, count, ZF, ZB⟩ := p
 simp only at hk h1
 subst hk
 have e := hg.2
 have e1 : (⟨6, ZA, ZC, ZN, ZP, ZI, ZJ, ZE, name, ZG, ZH, base, ref, count, ZF, ZB⟩ : Pk) = ⟨6, ZA, ZC, 0, 0, 0, 0, [], ⟨#[]⟩, [], [], base, ref, count, ZF, []⟩ := by
  rw [e]
  simp [YO]
 refine ⟨e1, ?_⟩
 rw [e1]
 exact ⟨List.replicate ((4 - (Zu ⟨6, ZA, ZC, 0, 0, 0, 0, [], ⟨#[]⟩, [], [], base, ref, count, ZF, []⟩).length % 4) % 4) 0, by simp [YH, Zu, Xf, XG, arrsL_eq _ h1]⟩
abbrev Rd4 (r : RS) (x : Int) (r' : RS) : Prop := x = ((YP (Zl 4 r).1 : Nat) : Int) /\ r' = (Zl 4 r).2
abbrev Rd2 (r : RS) (x : Int) (r' : RS) : Prop := x = ((YP (Zl 2 r).1 : Nat) : Int) /\ r' = (Zl 2 r).2
abbrev Rd1 (r : RS) (x : Int) (r' : RS) : Prop := x = ((YP (Zl 1 r).1 : Nat) : Int) /\ r' = (Zl 1 r).2
theorem YY {r r' : RS} {x y : Int} {t : List UInt8} (h : Rd4 r x r') (hy : 0 <= y /\ y <= 4294967295) (hr : r = (ZM y ++ t, false)) : x = y /\ r' = (t, false) := by
 subst hr
 obtain ⟨h1, h2⟩ := h
 rw [h1, h2]
 exact rd4 hy t
theorem WN {r r' : RS} {x y : Int} {t : List UInt8} (h : Rd2 r x r') (hy : 0 <= y /\ y <= 65535) (hr : r = (Zi y ++ t, false)) : x = y /\ r' = (t, false) := by
 subst hr
 obtain ⟨h1, h2⟩ := h
 rw [h1, h2]
 exact rd2 hy t
theorem Wd {r r' : RS} {x y : Int} {t : List UInt8} (h : Rd1 r x r') (hy : 0 <= y /\ y <= 255) (hr : r = ([byteOf y] ++ t, false)) : x = y /\ r' = (t, false) := by
 subst hr
 obtain ⟨h1, h2⟩ := h
 rw [h1, h2]
 exact rd1 hy t
theorem rdRep {r a b c d e f : RS} {x n h j l k : Int} {y : Rp} {t : List UInt8} (hy : RpOk y) (hr : r = (YK y ++ t, false)) (h1 : Rd4 r x a) (h2 : Rd4 a n b) (h3 : Rd4 b h c) (h4 : Rd4 c j d) (h5 : Rd4 d l e) (h6 : Rd4 e k f) :
  y = ⟨x, n / 16777216, n % 16777216, h, j, l, k⟩ /\ f = (t, false) := by
 have g1 := hy.src; have g2 := hy.lost; have g3 := hy.total; have g4 := hy.high; have g5 := hy.Xw; have g6 := hy.last; have g7 := hy.delay
 have e0 : YK y ++ t = ZM y.src ++ (ZM (y.lost * 16777216 + y.total) ++ (ZM y.high ++ (ZM y.Xw ++ (ZM y.last ++ (ZM y.delay ++ t))))) := by simp [YK, repN, XG]
 rw [e0] at hr
 obtain ⟨a1, hr⟩ := YY h1 (by omega) hr
 obtain ⟨a2, hr⟩ := YY h2 (by omega) hr
 obtain ⟨a3, hr⟩ := YY h3 (by omega) hr
 obtain ⟨a4, hr⟩ := YY h4 (by omega) hr
 obtain ⟨a5, hr⟩ := YY h5 (by omega) hr
 obtain ⟨a6, hr6⟩ := YY h6 (by omega) hr
 obtain ⟨s, lo, tt, hi, ji, la, de⟩ := y
 simp only at a1 a2 a3 a4 a5 a6 g1 g2 g3
 refine ⟨?_, hr6⟩
 rw [a1, a2, a3, a4, a5, a6, show (lo * 16777216 + tt) / 16777216 = lo by omega, show (lo * 16777216 + tt) % 16777216 = tt by omega]
theorem and_24 {f : Int} (h0 : 0 <= f) (h1 : f <= 4294967295) : bits BinOp.and IntKind.u32 f 16777215 = f % 16777216 := by
 have e1 : f = ((f.toNat : Nat) : Int) := by omega
 have hb : ∀ i j : Nat, i < 4294967296 -> j < 4294967296 -> bits BinOp.and IntKind.u32 (i : Int) (j : Int) = ((i &&& j : Nat) : Int) := by
  intro i j hi hj
  have h2 : i &&& j < 2 ^ 32 := Nat.and_lt_two_pow _ hj
  have e2 : (BitVec.ofInt 32 (i : Int)).toNat = i := by rw [BitVec.ofInt_natCast, BitVec.toNat_ofNat]; exact Nat.mod_eq_of_lt (by omega)
  have e3 : (BitVec.ofInt 32 (j : Int)).toNat = j := by rw [BitVec.ofInt_natCast, BitVec.toNat_ofNat]; exact Nat.mod_eq_of_lt (by omega)
  show IntKind.u32.wrap ((BitVec.ofInt 32 (i : Int) &&& BitVec.ofInt 32 (j : Int)).toNat : Int) = _
  rw [BitVec.toNat_and, e2, e3]
  simp only [IntKind.wrap, IntKind.signed, IntKind.bits]
  show ((i &&& j : Nat) : Int) % 4294967296 = _
  omega
 rw [e1, show (16777215 : Int) = ((16777215 : Nat) : Int) from rfl, hb _ _ (by omega) (by omega), show (16777215 : Nat) = 2 ^ 24 - 1 from rfl, Nat.and_two_pow_sub_one_eq_mod]
 omega
theorem VC {n : Int} {r : RS} : mS (Zl n r).2 <= mS r := by
 obtain ⟨l, bd⟩ := r
 unfold mS Zl
 split
 ·simp
 rename_i h
 simp at h
 simp [h.1]
theorem mS_lt {n : Nat} {r : RS} (h : r.1.length <= n) : mS r <= n + 1 := by
 unfold mS
 split <;> omega
theorem VJ {α : Type} {f : α -> List UInt8} (hs : ∀ x, 0 < (f x).length) {l : List α} (h : (l.flatMap f).length = 0) : l = [] := by
 cases l with
 | nil => rfl
 | cons x r =>
  rw [List.flatMap_cons, List.length_append] at h
  have := hs x
  omega
theorem Xx {α : Type} {f : α -> List UInt8} {l : List α} (h : 0 < (l.flatMap f).length) : ∃ x t, l = x :: t /\ l.flatMap f = f x ++ t.flatMap f := by
 cases l with
 | nil => simp at h
 | cons x r => exact ⟨x, r, rfl, by rw [List.flatMap_cons]⟩
theorem WA {p : Pk} (h1 : 0 <= p.ZA /\ p.ZA <= 4294967295) (h2 : 0 <= p.ZC /\ p.ZC <= 4294967295) (h3 : 0 <= p.ZN /\ p.ZN <= 18446744073709551615) (h4 : 0 <= p.ZP /\ p.ZP <= 4294967295) (h5 : 0 <= p.ZI /\ p.ZI <= 4294967295) (h6 : 0 <= p.ZJ /\ p.ZJ <= 4294967295)
  (h7 : ∀ x ∈ p.ZE, RpRaw x) (h8 : ∀ x ∈ p.ZG, 0 <= x /\ x <= 4294967295) (h9 : ∀ x ∈ p.ZH, 0 <= x /\ x <= 65535) (h10 : 0 <= p.base /\ p.base <= 65535) (h11 : 0 <= p.ref /\ p.ref <= 4294967295) (h12 : 0 <= p.count /\ p.count <= 255)
  (h13 : ∀ x ∈ p.ZB, (0 <= x.src /\ x.src <= 4294967295) /\ (0 <= x.seq /\ x.seq <= 255)) (l1 : p.ZE.length <= 70000) (l2 : p.ZG.length <= 70000) (l3 : p.ZH.length <= 70000) (l4 : p.ZF.length <= 70000) (l5 : p.ZB.length <= 70000) (l6 : p.name.size <= 70000) : W9 p :=
 ⟨h1, h2, h3, h4, h5, h6, h7, h8, h9, h10, h11, h12, h13, by omega, by omega, by omega, by omega, by omega, by unfold maxLen; omega, by omega, by omega, by omega, by omega, by omega⟩
theorem St.up12 {I : Zh} {M : List Zt} {w : World} {a b c : Zt} (h : St I (a :: b :: c :: M) w) : St I (b :: c :: a :: M) w := h.Ya.ZQ
theorem rawRep {a n h j l k : Int} (a0 : 0 <= a) (a1 : a <= 4294967295) (n0 : 0 <= n) (n1 : n <= 4294967295) (h0 : 0 <= h) (h1 : h <= 4294967295) (j0 : 0 <= j) (j1 : j <= 4294967295) (l0 : 0 <= l) (l1 : l <= 4294967295) (k0 : 0 <= k) (k1 : k <= 4294967295) : RpRaw ⟨a, n / 16777216, n % 16777216, h, j, l, k⟩ :=
 ⟨⟨a0, by simp only []; omega⟩, ⟨by simp only []; omega, by simp only []; omega⟩, ⟨by simp only []; omega, by simp only []; omega⟩, ⟨h0, by simp only []; omega⟩, ⟨j0, by simp only []; omega⟩, ⟨l0, by simp only []; omega⟩, ⟨k0, by simp only []; omega⟩⟩
theorem rdWn {r a b : RS} {x n : Int} {y : Wn} {t : List UInt8} (hy : (0 <= y.src /\ y.src <= 4294967295) /\ (0 <= y.seq /\ y.seq <= 255)) (hr : r = (XU y ++ t, false)) (h1 : Rd4 r x a) (h2 : Rd1 a n b) : y = ⟨x, n⟩ /\ (Zl 3 b).2 = (t, false) := by
 obtain ⟨s, q⟩ := y
 simp only at hy
 have e0 : XU ⟨s, q⟩ ++ t = ZM s ++ ([byteOf q] ++ ([byteOf 0, byteOf 0, byteOf 0] ++ t)) := by
  unfold XU ZM
  simp only [List.cons_append, List.nil_append, List.append_assoc]
  rw [show q * 16777216 / 16777216 = q by omega, show q * 16777216 / 65536 % 256 = 0 by omega, show q * 16777216 / 256 % 256 = 0 by omega, show q * 16777216 % 256 = 0 by omega]
 rw [e0] at hr
 obtain ⟨a1, hr⟩ := YY h1 hy.1 hr
 obtain ⟨a2, hr6⟩ := Wd h2 hy.2 hr
 rw [a1, a2, hr6]
 exact ⟨rfl, by rw [cut_app [byteOf 0, byteOf 0, byteOf 0] t 3 rfl]⟩
theorem St.freezeRowN {I : Zh} {M : List Zt} {w : World} {n n' c : Nat} {A : Option Addr} {xs : List Value} (h : St I (row 42 1 (.slice A n' c) n xs :: M) w) (h0 : 0 < xs.length) : ∃ J, I.le J /\ St J M w /\ Cells J A xs /\ SeqNew I M J (.slice A n' c) := by
 obtain ⟨g, cur, e1, e2, hlc, hcm, hcs, hct, hs⟩ := h.rowBk h0
 subst e1
 obtain ⟨J, Z5, ZX, Z4⟩ := hs.Zg
 refine ⟨J, Z5, ZX, ?_, g, n', c, cur, rfl, Z4, hs.away _ (List.mem_cons_self ..) g rfl, fun r hr hb => ?_⟩
 ·intro _
  refine ⟨g, 0, rfl, fun j hj => ?_⟩
  have h1 : cur[j]? = some xs[j] := by
   have h2 : (List.take (n * 1) cur.toList)[j]? = some xs[j] := by rw [hct]; exact List.getElem?_eq_getElem hj
   rw [List.getElem?_take] at h2
   split at h2
   ·rw [<- Array.getElem?_toList]; exact h2
   cases h2
  unfold Zh.cell?
  simp only [Z4, Nat.zero_add]
  exact h1
 exact (List.pairwise_cons.1 hs.apart).1 r hr g rfl hb
theorem nt_back (n : Int) : n = n / 4294967296 * 4294967296 + n % 4294967296 := by omega
theorem or_u64 {a b : Int} (a0 : 0 <= a) (a1 : a <= 4294967295) (b0 : 0 <= b) (b1 : b <= 4294967295) : bits BinOp.or IntKind.u64 (a * 4294967296) b = a * 4294967296 + b := by
 obtain ⟨x, rfl⟩ := Int.eq_ofNat_of_zero_le a0
 obtain ⟨y, rfl⟩ := Int.eq_ofNat_of_zero_le b0
 have hx : x * 4294967296 < 2 ^ 64 := by omega
 have e2 : (BitVec.ofInt 64 ((x : Int) * 4294967296)).toNat = x * 4294967296 := by rw [show ((x : Int) * 4294967296) = ((x * 4294967296 : Nat) : Int) by omega, BitVec.ofInt_natCast, BitVec.toNat_ofNat]; exact Nat.mod_eq_of_lt (by omega)
 have e3 : (BitVec.ofInt 64 (y : Int)).toNat = y := by rw [BitVec.ofInt_natCast, BitVec.toNat_ofNat]; exact Nat.mod_eq_of_lt (by omega)
 show IntKind.u64.wrap ((BitVec.ofInt 64 ((x : Int) * 4294967296) ||| BitVec.ofInt 64 (y : Int)).toNat : Int) = _
 rw [BitVec.toNat_or, e2, e3]
 have h4 : x * 4294967296 ||| y = x * 4294967296 + y := by
  have := Nat.two_pow_add_eq_or_of_lt (i := 32) (b := y) (by omega) x
  rw [show x * 4294967296 = 2 ^ 32 * x by omega, <- this]
 rw [h4, u64_mod]
 omega
theorem St.rowUp3 {I : Zh} {M : List Zt} {w : World} {a b c d : Zt} (h : St I (a :: b :: c :: d :: M) w) : St I (d :: a :: b :: c :: M) w := h.perm (List.perm_append_comm (l₁ := [a, b, c]) (l₂ := [d]) |>.append_right M)
theorem St.dn12 {I : Zh} {M : List Zt} {w : World} {a b c : Zt} (h : St I (b :: c :: a :: M) w) : St I (a :: b :: c :: M) w := h.ZQ.Ya
theorem or_u64b (q x : Nat) (hx : x < 256) (hq : q < 72057594037927936) : bits BinOp.or IntKind.u64 ((q : Int) * 256) (x : Int) = ((q * 256 + x : Nat) : Int) := by
 have e2 : (BitVec.ofInt 64 (((q * 256 : Nat) : Int))).toNat = q * 256 := by
  rw [BitVec.ofInt_natCast, BitVec.toNat_ofNat]; exact Nat.mod_eq_of_lt (by omega)
 have e3 : (BitVec.ofInt 64 (x : Int)).toNat = x := by
  rw [BitVec.ofInt_natCast, BitVec.toNat_ofNat]; exact Nat.mod_eq_of_lt (by omega)
 rw [show ((q : Int) * 256) = ((q * 256 : Nat) : Int) by omega]
 show IntKind.u64.wrap ((BitVec.ofInt 64 ((q * 256 : Nat) : Int) ||| BitVec.ofInt 64 (x : Int)).toNat : Int) = _
 rw [BitVec.toNat_or, e2, e3, lor_add q x hx]
 simp only [IntKind.wrap, IntKind.signed, IntKind.bits]
 show ((q * 256 + x : Nat) : Int) % 18446744073709551616 = _
 omega
set_option maxHeartbeats 4000000 in
theorem numberC (I : Zh) (M : List Zt) (w : World) (A : Option Addr) (c : Nat) (l : List UInt8) (hB : Zq I A l) (hl : l.length <= 8) (ZX : St I M w) :
  Calls Try.prog 22 #[.slice A l.length c] w (fun e w' => e = .returned (.int .u64 ((YP l : Nat) : Int)) /\ w = w') := by
 have HB := VL (And.intro hB ZX)
 clear hB ZX
 go_enter Try.func22, Try.ntmps22
 go_wp2
 go_loop [7, 3] (fun i x => ∃ k : Nat, k <= l.length /\ i = .int .i64 k /\ x = .int .u64 ((YP (l.take k) : Nat) : Int)) (fun i _ => l.length - (intOf i).toNat)
 case atStart => exact ⟨0, Nat.zero_le _, rfl, rfl⟩
 case round =>
  obtain ⟨k, hk, rfl, rfl⟩ := hrel
  by_cases Z0 : k < l.length
  ·obtain ⟨g, o, rfl, ZK⟩ := HB.out.1.at (by omega)
   have hz := ZK _ _ HB.out.2 k Z0
   clear ZK
   have hq := numL_lt (l.take k)
   have hs : YP (l.take (k + 1)) = YP (l.take k) * 256 + l[k].toNat := by rw [List.take_succ_eq_append_getElem Z0, numL_snoc]
   have Hs := VL hs
   clear hs
   have hq2 : YP (l.take k) < 72057594037927936 := by
    have h1 : (l.take k).length <= 7 := by rw [List.length_take]; omega
    have h2 : 256 ^ (l.take k).length <= 256 ^ 7 := Nat.pow_le_pow_right (by omega) h1
    omega
   clear hq
   have hy := UInt8.toNat_lt l[k]
   generalize YP (l.take k) = q at *
   generalize l[k].toNat = y at *
   go_wp2
   go_round
   case rel => exact ⟨k + 1, by omega, by go_num, by first | rw [or_u64b q y hy hq2, Hs.out] | (rw [Hs.out]; exact (1 : Nat))⟩
   case measure => simp [intOf]; omega
  go_wp2
  go_ret
  rw [List.take_of_length_le (by omega)]
  exact ⟨rfl, rfl⟩
def Yl (bs : List UInt8) (i k : Nat) : Int := ((YP ((bs.drop i).take k) : Nat) : Int)
theorem Wp (bs : List UInt8) (i k : Nat) : 0 <= Yl bs i k /\ Yl bs i k < ((256 ^ k : Nat) : Int) := by
 unfold Yl
 have h1 := numL_lt ((bs.drop i).take k)
 have h2 : 256 ^ ((bs.drop i).take k).length <= 256 ^ k := Nat.pow_le_pow_right (by decide) (by rw [List.length_take]; omega)
 omega
theorem Ym (bs : List UInt8) (i : Nat) : 0 <= Yl bs i 4 /\ Yl bs i 4 <= 4294967295 := by
 have := Wp bs i 4
 have h9 : ((256 ^ 4 : Nat) : Int) = 4294967296 := by decide
 omega
theorem nmA_2 (bs : List UInt8) (i : Nat) : 0 <= Yl bs i 2 /\ Yl bs i 2 <= 65535 := by
 have := Wp bs i 2
 have h9 : ((256 ^ 2 : Nat) : Int) = 65536 := by decide
 omega
theorem nmA_8 (bs : List UInt8) (i : Nat) : 0 <= Yl bs i 8 /\ Yl bs i 8 <= 18446744073709551615 := by
 have := Wp bs i 8
 have h9 : ((256 ^ 8 : Nat) : Int) = 18446744073709551616 := by decide
 omega
theorem nmA_1 {bs : List UInt8} {i : Nat} (h : i < bs.length) : Yl bs i 1 = (bs[i].toNat : Int) := by
 unfold Yl
 rw [List.drop_eq_getElem_cons h]
 show ((YP [bs[i]] : Nat) : Int) = _
 simp [YP]
theorem cut_at {bs : List UInt8} {i k : Nat} (h : i + k <= bs.length) : Zl k (bs.drop i, false) = ((bs.drop i).take k, (bs.drop (i + k), false)) := by
 unfold Zl
 rw [if_neg (by simp; omega)]
 simp [List.drop_drop]
theorem Xn {bs : List UInt8} {i : Nat} (h : i + 4 <= bs.length) : Rd4 (bs.drop i, false) (Yl bs i 4) (bs.drop (i + 4), false) := by
 have e := cut_at (k := 4) h
 exact ⟨by rw [show (4 : Int) = ((4 : Nat) : Int) from rfl, e]; rfl, by rw [show (4 : Int) = ((4 : Nat) : Int) from rfl, e]⟩
theorem rdA2 {bs : List UInt8} {i : Nat} (h : i + 2 <= bs.length) : Rd2 (bs.drop i, false) (Yl bs i 2) (bs.drop (i + 2), false) := by
 have e := cut_at (k := 2) h
 exact ⟨by rw [show (2 : Int) = ((2 : Nat) : Int) from rfl, e]; rfl, by rw [show (2 : Int) = ((2 : Nat) : Int) from rfl, e]⟩
theorem rdA1 {bs : List UInt8} {i : Nat} (h : i + 1 <= bs.length) : Rd1 (bs.drop i, false) (Yl bs i 1) (bs.drop (i + 1), false) := by
 have e := cut_at (k := 1) h
 exact ⟨by rw [show (1 : Int) = ((1 : Nat) : Int) from rfl, e]; rfl, by rw [show (1 : Int) = ((1 : Nat) : Int) from rfl, e]⟩
theorem Zq.part {I : Zh} {A : Option Addr} {bs : List UInt8} (h : Zq I A bs) {i k c : Nat} (hc : bs.length <= c) : Zq I (if c = i then A else A.map (·.add i)) ((bs.drop i).take k) := (h.drop hc).take k
set_option maxHeartbeats 4000000 in
theorem XT (I : Zh) (M : List Zt) (w : World) (g o c : Nat) (bs : List UInt8) (i : Nat) (hB : Zq I (some ⟨g, o, none⟩) bs) (hc : bs.length <= c) (hi : i + 4 <= bs.length) (hm : bs.length <= 140737488351232) (ZX : St I M w) :
  Calls Try.prog 56 #[.slice (some ⟨g, o, none⟩) bs.length c, .int .i64 (i : Int)] w (fun e w' => e = .returned (.int .u32 (Yl bs i 4)) /\ w = w') := by
 have hcr : ¬ c = i := by omega
 have hp : Zq I (some ⟨g, o + i, none⟩) ((bs.drop i).take 4) := by
  have h := hB.part (i := i) (k := 4) hc
  rw [if_neg hcr] at h
  simpa [Wq] using h
 have hl : ((bs.drop i).take 4).length = 4 := by rw [List.length_take, List.length_drop]; omega
 have HC := numberC I M w _ (c - i) _ hp (by omega) ZX
 rw [hl] at HC
 have HR := VL (Ym bs i)
 have HC := VL HC
 clear hp hl hB ZX
 obtain ⟨n, hn⟩ : ∃ z, z = bs.length := ⟨_, rfl⟩
 rw [<- hn] at hc hi hm ⊢
 have HN := VL hn
 clear hn
 go_enter Try.func56, Try.ntmps56
 go_wp2_with fail
 go_at_call 22
 refine HC.out.mono ?_
 clear HC
 rintro e w1 ⟨rfl, hw⟩
 subst hw
 have hz := HR.out
 unfold Yl at hz
 have HG := VL (show Yl bs i 4 = ((YP ((bs.drop i).take 4) : Nat) : Int) from rfl)
 generalize ((YP ((bs.drop i).take 4) : Nat) : Int) = z at hz HG ⊢
 obtain ⟨z0, z1⟩ := hz
 clear HR
 go_wp2
 go_ret
 exact ⟨by rw [HG.out]; rfl, rfl⟩
end Go.Proofs.Ytddopbbmgpnjjaa
