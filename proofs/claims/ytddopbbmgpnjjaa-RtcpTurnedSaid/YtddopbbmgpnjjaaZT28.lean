/- part. -/
import Derived.Test.YtddopbbmgpnjjaaZT22
import Derived.Test.YtddopbbmgpnjjaaZT26
import Derived.Test.YtddopbbmgpnjjaaZT27
namespace Go.Proofs.Ytddopbbmgpnjjaa
set_option linter.unusedSimpArgs false
open Go.RowKit
set_option maxRecDepth 100000 in
set_option maxHeartbeats 20000000 in
theorem refg (I : Zh) (M : List Zt) (w : World) (g o c : Nat) (bs : List UInt8) (T : Pk -> Prop) (hB : Zq I (some ⟨g, o, none⟩) bs) (hc : bs.length <= c) (h4 : 4 <= bs.length) (_hm : bs.length <= 262144) (hT : ∀ p, T p -> Good p /\ Y6 p /\ bs = ZV p) (lw : Int) (hkb : Yl bs 1 1 = 200) (hlw : Yl bs 0 1 % 32 = lw) (h8 : 12 <= bs.length) (h28 : bs.length < 28) (ZX : St I M w) :
  Calls Try.prog 23 #[.slice (some ⟨g, o, none⟩) bs.length c] w (WF I M T) := by
 obtain ⟨q2, y0, n, fs, hq2, HT, HB, ZY, hy0, hy1, hand, hlr0, hlr1, hkr0, hkr1, HKB, hn, hd⟩ := Xa hB hc h4 hT hkb hlw ZX
 have HN := VL hn
 rw [<- hn] at hc h4 _hm ⊢
 rw [<- hn] at h8 h28
 clear ZX hT hB hkb hlw hn
 go_enter Try.func23, Try.ntmps23
 go_upto_region 1 with fail
 rw [<- hq2]
 clear hq2
 generalize World.alloc w _ = W at ZY hy0 hy1 ⊢
 go_quiet (fail)
 rename_i nq
 have YN := ZY.drewN nq
 clear ZY hy0 hy1 hand
 generalize W.drewN nq = W1 at YN ⊢
 obtain ⟨q6, hq6⟩ : ∃ q, q = W1.heap.size := ⟨_, rfl⟩
 have Zf := YN.alloc 56 #[.int .i64 0, .int .u32 0, .int .u32 0, .int .u64 0, .int .u32 0, .int .u32 0, .int .u32 0, .slice none 0 0, .string ⟨#[]⟩, .slice none 0 0, .slice none 0 0, .int .u16 0, .int .u32 0, .int .u8 0, .slice none 0 0, .slice none 0 0]
 rw [<- hq6] at Zf
 clear YN
 go_upto_region 3 with fail
 rw [<- hq6]
 clear hq6
 generalize World.alloc W1 _ = W2 at Zf ⊢
 have HS := VL Zf
 clear Zf
 obtain ⟨hcA, hfA, hlA⟩ := ZO.all (HS.out.at 0 rfl)
 have HNO := VL (show True from trivial)
 have HC := XT I _ _ g o c bs (4) (HB.out) (by rw [<- HN.out]; exact hc) (by rw [<- HN.out]; omega) (by rw [<- HN.out]; omega) HS.out
 rw [<- HN.out] at HC
 obtain ⟨x1, hx⟩ : ∃ z, z = Yl bs (4) 4 := ⟨_, rfl⟩
 have hr := Ym bs (4)
 rw [<- hx] at HC hr
 obtain ⟨x1a, x1b⟩ := hr
 have HC := VL HC
 have Hx1 := VL hx
 clear hx
 go_wp2_with fail
 go_at_call 56
 refine HC.out.mono ?_
 clear HC
 rintro e w9 ⟨rfl, hw⟩
 subst hw
 have Zv := (HS.out.set 1 (.int .u32 x1))
 go_upto_region 29 with fail
 generalize World.setCell W2 _ _ = W3 at Zv ⊢
 clear HS hcA hfA hlA
 have HS := VL Zv
 clear Zv
 have HF := VL (show ∀ p, T p -> (⟨0, x1, 0, 0, 0, 0, 0, p.ZE, ⟨#[]⟩, [], [], 0, 0, 0, [], []⟩ : Pk) = p /\ ((bs.drop 8, false) : RS) = (p.ZE.flatMap YK, false) from fun p hp => by
  exfalso
  obtain ⟨hg, hok, hbs⟩ := HT.out p hp
  obtain ⟨k1, k8, _⟩ := Y5 hg hbs
  have hkk := XF hg hbs HKB.out.1 HKB.out.2
  have hll := WJ hg hbs
  rw [<- HN.out] at hll
  omega)
 go_upto_region 30 with fail
 have Yu := HS.out.nil (e := 64) (size := 7)
 clear HS
 have HS := VL Yu
 clear Yu
 try clear hcA hfA hlA
 go_loopw [7] (fun av wr => ∃ (i : Nat) (L : List Rp) (A : Option Addr) (cA : Nat), av = .int .i64 i /\ i <= n /\ Hid (St I (row 64 7 (.slice A L.length cA) L.length (flat Yt L) :: bk q6 56 #[.int .i64 0, .int .u32 x1, .int .u32 0, .int .u64 0, .int .u32 0, .int .u32 0, .int .u32 0, .slice A L.length cA, .string ⟨#[]⟩, .slice none 0 0, .slice none 0 0, .int .u16 0, .int .u32 0, .int .u8 0, .slice none 0 0, .slice none 0 0] :: bk q2 56 Z56 :: M) wr /\ L.length * 24 + 8 = i /\ (∀ x ∈ L, RpRaw x) /\ ∀ p, T p -> ∃ t, p.ZE = L ++ t /\ ((bs.drop i, false) : RS) = (t.flatMap YK, false))) (fun av _ => n - (intOf av).toNat)
 case atStart => exact ⟨8, [], none, 0, rfl, by omega, VL ⟨HS.out, rfl, by simp, fun p hp => ⟨p.ZE, rfl, (HF.out p hp).2⟩⟩⟩
 case round =>
  obtain ⟨i, L, A, cA, rfl, hi, hh⟩ := hrel
  clear HS
  obtain ⟨hs, hlen, Yf, ht⟩ := hh.out
  clear hh
  have HS := VL hs
  have YZ := VL (And.intro hlen (And.intro Yf ht))
  clear hs hlen Yf ht
  by_cases Z0 : i + 24 <= n
  ·skip
   have VK : (i : Int) + 24 <= (n : Int) := by omega
   obtain ⟨hcA, hfA, hlA⟩ := ZO.all (HS.out.at 1 rfl)
   have HC := XT I _ _ g o c bs (i + 4) (HB.out) (by rw [<- HN.out]; exact hc) (by rw [<- HN.out]; omega) (by rw [<- HN.out]; omega) HS.out
   rw [<- HN.out, show (((i + 4 : Nat)) : Int) = (i : Int) + 4 from rfl] at HC
   obtain ⟨y2, hx⟩ : ∃ z, z = Yl bs (i + 4) 4 := ⟨_, rfl⟩
   have hr := Ym bs (i + 4)
   rw [<- hx] at HC hr
   obtain ⟨y2a, y2b⟩ := hr
   have HC := VL HC
   have Hy2 := VL hx
   clear hx
   go_wp2_with fail
   go_at_call 56
   refine HC.out.mono ?_
   clear HC
   rintro e w9 ⟨rfl, hw⟩
   subst hw
   have hdv0 : 0 <= y2 / 16777216 := by omega
   have hdv1 : y2 / 16777216 <= 255 := by omega
   have hand := and_24 y2a y2b
   go_upto_region 33 with fail
   have hw8 : IntKind.i64.wrap ((i : Int) + 8) = (i : Int) + 8 := wrap_i64 (by omega) (by omega)
   have hw12 : IntKind.i64.wrap ((i : Int) + 12) = (i : Int) + 12 := wrap_i64 (by omega) (by omega)
   have hw16 : IntKind.i64.wrap ((i : Int) + 16) = (i : Int) + 16 := wrap_i64 (by omega) (by omega)
   have hw20 : IntKind.i64.wrap ((i : Int) + 20) = (i : Int) + 20 := wrap_i64 (by omega) (by omega)
   have hwu : IntKind.u8.wrap (y2 / 16777216) = y2 / 16777216 := by
    simp only [IntKind.wrap, IntKind.signed, IntKind.bits]
    show (y2 / 16777216) % 256 = _
    omega
   clear hcA hfA hlA
   have YV := VL (fun (M9 : List Zt) (w' : World) (hm : bk q6 56 #[.int .i64 0, .int .u32 x1, .int .u32 0, .int .u64 0, .int .u32 0, .int .u32 0, .int .u32 0, .slice A L.length cA, .string ⟨#[]⟩, .slice none 0 0, .slice none 0 0, .int .u16 0, .int .u32 0, .int .u8 0, .slice none 0 0, .slice none 0 0] ∈ M9) (hs : St I M9 w') => (show w'.cell? ⟨q6, 7, none⟩ = some (.slice A L.length cA) from (ZO.all (hs.res _ hm)).1 7))
   refine YQ (S := fun w' => w'.cell? ⟨q6, 7, none⟩ = some (.slice A L.length cA)) (by kernel_rfl) (YV.out _ _ (by simp) HS.out.drew) (fun ZL => ?_)
   have YM := HS.out.drew
   clear HS
   generalize World.drew _ = W5 at YM ZL ⊢
   refine wt 0 1 rfl (by kernel_rfl) (fun _ _ _ h => h) rfl ‹_› (by intro w h;go_simp;try with_reducible rfl) ?_
   try go_frame
   refine wt 1 28 rfl (by kernel_rfl) (fun _ _ _ h => h) rfl ‹_› (by intro w h;go_simp;try with_reducible rfl) ?_
   try go_frame
   refine wt 2 4 rfl (by kernel_rfl) (fun _ _ _ h => h) rfl ‹_› (by intro w h;go_simp;try with_reducible rfl) ?_
   try go_frame
   refine wt 3 4 rfl (by kernel_rfl) (fun _ _ _ h => h) rfl ‹_› (by intro w h;go_simp;try with_reducible rfl) ?_
   try go_frame
   refine wt 5 6 rfl (by kernel_rfl) (fun _ _ _ h => h) rfl ‹_› (by intro w h;go_simp;try with_reducible rfl) ?_
   try go_frame
   refine wt 6 7 rfl (by kernel_rfl) (fun _ _ _ h => h) rfl ‹_› (by intro w h;go_simp;try with_reducible rfl) ?_
   try go_frame
   refine wt 7 26 rfl (by kernel_rfl) (fun _ _ _ h => h) rfl ‹_› (by intro w h;go_simp;try with_reducible rfl) ?_
   try go_frame
   refine wt 8 9 rfl (by kernel_rfl) (fun _ _ _ h => h) rfl ‹_› (by intro w h;go_simp;try with_reducible rfl) ?_
   try go_frame
   refine wt 9 26 rfl (by kernel_rfl) (fun _ _ _ h => h) rfl ‹_› (by intro w h;go_simp;try with_reducible rfl) ?_
   try go_frame
   refine wt 10 13 rfl (by kernel_rfl) (fun _ _ _ h => h) rfl ‹_› (by intro w h;go_simp;try with_reducible rfl) ?_
   try go_frame
   refine wt 11 12 rfl (by kernel_rfl) (fun _ _ _ h => h) rfl ‹_› (by intro w h;go_simp;try with_reducible rfl) ?_
   try go_frame
   refine wt 12 13 rfl (by kernel_rfl) (fun _ _ _ h => h) rfl ‹_› (by intro w h;go_simp;try with_reducible rfl) ?_
   try go_frame
   refine wt 14 17 rfl (by kernel_rfl) (fun _ _ _ h => h) rfl ‹_› (by intro w h;go_simp;try with_reducible rfl) ?_
   try go_frame
   refine wt 15 16 rfl (by kernel_rfl) (fun _ _ _ h => h) rfl ‹_› (by intro w h;go_simp;try with_reducible rfl) ?_
   try go_frame
   refine wt 16 17 rfl (by kernel_rfl) (fun _ _ _ h => h) rfl ‹_› (by intro w h;go_simp;try with_reducible rfl) ?_
   try go_frame
   refine wt 18 21 rfl (by kernel_rfl) (fun _ _ _ h => h) rfl ‹_› (by intro w h;go_simp;try with_reducible rfl) ?_
   try go_frame
   refine wt 19 20 rfl (by kernel_rfl) (fun _ _ _ h => h) rfl ‹_› (by intro w h;go_simp;try with_reducible rfl) ?_
   try go_frame
   refine wt 20 21 rfl (by kernel_rfl) (fun _ _ _ h => h) rfl ‹_› (by intro w h;go_simp;try with_reducible rfl) ?_
   try go_frame
   refine wt 22 25 rfl (by kernel_rfl) (fun _ _ _ h => h) rfl ‹_› (by intro w h;go_simp;try with_reducible rfl) ?_
   try go_frame
   refine wt 23 24 rfl (by kernel_rfl) (fun _ _ _ h => h) rfl ‹_› (by intro w h;go_simp;try with_reducible rfl) ?_
   try go_frame
   refine wt 24 25 rfl (by kernel_rfl) (fun _ _ _ h => h) rfl ‹_› (by intro w h;go_simp;try with_reducible rfl) ?_
   try go_frame
   try clear hand hdv0 hdv1 hwu
   clear hw8 hw12 hw16 hw20
   have HC := XT I _ _ g o c bs (i) (HB.out) (by rw [<- HN.out]; exact hc) (by rw [<- HN.out]; omega) (by rw [<- HN.out]; omega) YM
   rw [<- HN.out] at HC
   obtain ⟨y1, hx⟩ : ∃ z, z = Yl bs (i) 4 := ⟨_, rfl⟩
   have hr := Ym bs (i)
   rw [<- hx] at HC hr
   obtain ⟨y1a, y1b⟩ := hr
   have HC := VL HC
   have Hy1 := VL hx
   clear hx
   refine ZU (i := 4) (o := _) (by kernel_rfl) rfl (fun K hK => ?_)
   go_simp
   try clear ZL
   refine HC.out.mono ?_
   clear HC
   rintro e w9 ⟨rfl, hw⟩
   subst hw
   refine hK.out _ _ (YV.out _ _ (by simp) YM) (fun ZL => ?_)
   clear hK K
   try go_frame
   have HC := XT I _ _ g o c bs (i + 8) (HB.out) (by rw [<- HN.out]; exact hc) (by rw [<- HN.out]; omega) (by rw [<- HN.out]; omega) YM
   rw [<- HN.out, show (((i + 8 : Nat)) : Int) = (i : Int) + 8 from rfl] at HC
   obtain ⟨y3, hx⟩ : ∃ z, z = Yl bs (i + 8) 4 := ⟨_, rfl⟩
   have hr := Ym bs (i + 8)
   rw [<- hx] at HC hr
   obtain ⟨y3a, y3b⟩ := hr
   have HC := VL HC
   have Hy3 := VL hx
   clear hx
   refine ZU (i := 13) (o := _) (by kernel_rfl) rfl (fun K hK => ?_)
   go_simp
   try clear ZL
   refine HC.out.mono ?_
   clear HC
   rintro e w9 ⟨rfl, hw⟩
   subst hw
   refine hK.out _ _ (YV.out _ _ (by simp) YM) (fun ZL => ?_)
   clear hK K
   try go_frame
   have HC := XT I _ _ g o c bs (i + 12) (HB.out) (by rw [<- HN.out]; exact hc) (by rw [<- HN.out]; omega) (by rw [<- HN.out]; omega) YM
   rw [<- HN.out, show (((i + 12 : Nat)) : Int) = (i : Int) + 12 from rfl] at HC
   obtain ⟨y4, hx⟩ : ∃ z, z = Yl bs (i + 12) 4 := ⟨_, rfl⟩
   have hr := Ym bs (i + 12)
   rw [<- hx] at HC hr
   obtain ⟨y4a, y4b⟩ := hr
   have HC := VL HC
   have Hy4 := VL hx
   clear hx
   refine ZU (i := 17) (o := _) (by kernel_rfl) rfl (fun K hK => ?_)
   go_simp
   try clear ZL
   refine HC.out.mono ?_
   clear HC
   rintro e w9 ⟨rfl, hw⟩
   subst hw
   refine hK.out _ _ (YV.out _ _ (by simp) YM) (fun ZL => ?_)
   clear hK K
   try go_frame
   have HC := XT I _ _ g o c bs (i + 16) (HB.out) (by rw [<- HN.out]; exact hc) (by rw [<- HN.out]; omega) (by rw [<- HN.out]; omega) YM
   rw [<- HN.out, show (((i + 16 : Nat)) : Int) = (i : Int) + 16 from rfl] at HC
   obtain ⟨y5, hx⟩ : ∃ z, z = Yl bs (i + 16) 4 := ⟨_, rfl⟩
   have hr := Ym bs (i + 16)
   rw [<- hx] at HC hr
   obtain ⟨y5a, y5b⟩ := hr
   have HC := VL HC
   have Hy5 := VL hx
   clear hx
   refine ZU (i := 21) (o := _) (by kernel_rfl) rfl (fun K hK => ?_)
   go_simp
   try clear ZL
   refine HC.out.mono ?_
   clear HC
   rintro e w9 ⟨rfl, hw⟩
   subst hw
   refine hK.out _ _ (YV.out _ _ (by simp) YM) (fun ZL => ?_)
   clear hK K
   try go_frame
   have HC := XT I _ _ g o c bs (i + 20) (HB.out) (by rw [<- HN.out]; exact hc) (by rw [<- HN.out]; omega) (by rw [<- HN.out]; omega) YM
   rw [<- HN.out, show (((i + 20 : Nat)) : Int) = (i : Int) + 20 from rfl] at HC
   obtain ⟨y6, hx⟩ : ∃ z, z = Yl bs (i + 20) 4 := ⟨_, rfl⟩
   have hr := Ym bs (i + 20)
   rw [<- hx] at HC hr
   obtain ⟨y6a, y6b⟩ := hr
   have HC := VL HC
   have Hy6 := VL hx
   clear hx
   refine ZU (i := 25) (o := _) (by kernel_rfl) rfl (fun K hK => ?_)
   go_simp
   try clear ZL
   refine HC.out.mono ?_
   clear HC
   rintro e w9 ⟨rfl, hw⟩
   subst hw
   refine hK.out _ _ (YV.out _ _ (by simp) YM) (fun ZL => ?_)
   clear hK K
   try go_frame
   refine wt 26 27 rfl (by kernel_rfl) (fun _ _ _ h => h) rfl ‹_› (by intro w h;go_simp;try with_reducible rfl) ?_
   try go_frame
   refine ZU (i := 27) (o := _) (by kernel_rfl) rfl (fun K hK => ?_)
   go_simp
   have Yu := YM.Yw (P := Try.prog) (t := 53) (e := 64) (cs := #[.int .u32 y1, .int .u8 (y2 / 16777216), .int .u32 (y2 % 16777216), .int .u32 y3, .int .u32 y4, .int .u32 y5, .int .u32 y6]) (n := 1) (size := 7) rfl (by decide) Try.underlying53 (by simp [Value.oneCell'])
   have XE := YM.grow (.cells #[.int .u32 y1, .int .u8 (y2 / 16777216), .int .u32 (y2 % 16777216), .int .u32 y3, .int .u32 y4, .int .u32 y5, .int .u32 y6] 64)
   try clear ZL
   refine hK.out _ _ (YV.out _ _ (by simp) XE) (fun ZL => ?_)
   clear hK K
   try go_frame
   obtain ⟨i0, hi0, hz0, hz1, hz2⟩ := info_parts info64
   have WE := VL (show L.length <= 70000 from by have := YZ.out.1; omega)
   refine ZU (i := 28) (o := _) (by kernel_rfl) rfl (fun K hK => ?_)
   refine YU _ (by rfl) _ _ 53 53 (by rfl) 0 64 i0 (.agg #[.int .u32 0, .int .u8 0, .int .u32 0, .int .u32 0, .int .u32 0, .int .u32 0, .int .u32 0]) 7 28 Try.underlying53 hi0 hz0 hz1 hz2 rfl _ L.length (flat Yt L) (by rfl) XE.head _ 1 _ (by rfl) Yu (by have := WE.out; unfold maxLen; omega) (by have := WE.out; omega) (Nat.zero_le _) ?_
   intro v' w5 Z9 Zr hat
   have Zb : w5.ownsRow 0 64 7 v' (L.length + 1) (flat Yt (L ++ [(⟨y1, y2 / 16777216, y2 % 16777216, y3, y4, y5, y6⟩ : Rp)])) := by rw [Z7]; exact Z9
   obtain ⟨A10, c10, rfl⟩ := ZW Zb
   have Zo := XE.grown Zr Zb (by simpa using hat)
   try clear ZL
   refine hK.out _ _ (YV.out _ _ (by simp) Zo) (fun ZL => ?_)
   clear hK K
   try go_frame
   refine wt 29 30 rfl (by kernel_rfl) (fun _ _ _ h => h) rfl ‹_› (by intro w h;go_simp;try with_reducible rfl) ?_
   try go_frame
   have HS6 := VL (show St I (row 64 7 (.slice A10 (L.length + 1) c10) (L.length + 1) (flat Yt (L ++ [(⟨y1, y2 / 16777216, y2 % 16777216, y3, y4, y5, y6⟩ : Rp)])) :: bk q6 56 #[.int .i64 0, .int .u32 x1, .int .u32 0, .int .u64 0, .int .u32 0, .int .u32 0, .int .u32 0, .slice A10 (L.length + 1) c10, .string ⟨#[]⟩, .slice none 0 0, .slice none 0 0, .int .u16 0, .int .u32 0, .int .u8 0, .slice none 0 0, .slice none 0 0] :: bk q2 56 Z56 :: M) (w5.setCell ⟨q6, 7, none⟩ (.slice A10 (L.length + 1) c10)) from ((Zo.ZQ.set 7 (.slice A10 (L.length + 1) c10)).ZQ))
   obtain ⟨hp, fp, lp⟩ := ZO.all (Zo.at 1 rfl)
   refine Yi (i := 30) (o := _) (by kernel_rfl) rfl (by kernel_rfl) (by kernel_rfl) (fun K hK => ?_)
   go_simp
   try clear ZL
   refine hK.out _ _ ?_
   clear hK K
   try go_frame
   clear Zo Z9 Zb Zr hat Yu XE YM hp fp lp
   go_wp2
   go_roundw
   case rel =>
    refine ⟨i + 24, L ++ [(⟨y1, y2 / 16777216, y2 % 16777216, y3, y4, y5, y6⟩ : Rp)], A10, c10, by go_num, by omega, VL ⟨by rw [List.length_append]; exact HS6.out, ?_, ?_, ?_⟩⟩
    ·have h1 := YZ.out.1
     rw [List.length_append, List.length_singleton]
     omega
    ·intro x hx
     rcases List.mem_append.1 hx with hx | hx
     ·exact YZ.out.2.1 x hx
     rw [List.mem_singleton.1 hx]
     exact rawRep y1a y1b y2a y2b y3a y3b y4a y4b y5a y5b y6a y6b
    intro p hp
    obtain ⟨t, h1, h2⟩ := YZ.out.2.2 p hp
    have h3 := congrArg (fun r : RS => r.1.length) h2
    simp only [List.length_drop] at h3
    obtain ⟨y, t', rfl, hby⟩ := Xx (f := YK) (l := t) (by have := HN.out; omega)
    rw [hby] at h2
    have hyr := (HT.out p hp).2.1.ZE y (by rw [h1]; simp)
    have g1 : Rd4 (bs.drop i, false) y1 (bs.drop (i + 4), false) := by rw [Hy1.out]; exact Xn (by rw [<- HN.out]; omega)
    have g2 : Rd4 (bs.drop (i + 4), false) y2 (bs.drop (i + 8), false) := by rw [Hy2.out]; exact Xn (by rw [<- HN.out]; omega)
    have g3 : Rd4 (bs.drop (i + 8), false) y3 (bs.drop (i + 12), false) := by rw [Hy3.out]; exact Xn (by rw [<- HN.out]; omega)
    have g4 : Rd4 (bs.drop (i + 12), false) y4 (bs.drop (i + 16), false) := by rw [Hy4.out]; exact Xn (by rw [<- HN.out]; omega)
    have g5 : Rd4 (bs.drop (i + 16), false) y5 (bs.drop (i + 20), false) := by rw [Hy5.out]; exact Xn (by rw [<- HN.out]; omega)
    have g6 : Rd4 (bs.drop (i + 20), false) y6 (bs.drop (i + 24), false) := by rw [Hy6.out]; exact Xn (by rw [<- HN.out]; omega)
    obtain ⟨he, h5⟩ := rdRep hyr h2 g1 g2 g3 g4 g5 g6
    exact ⟨t', by rw [h1, he]; simp, h5⟩
   case measure => simp [intOf]; omega
  have VK : ¬ (i : Int) + 24 <= (n : Int) := by omega
  have HE := VL (show ∀ p, T p -> p.ZE = L from fun p hp => by
   obtain ⟨t, h1, h2⟩ := YZ.out.2.2 p hp
   have h3 := congrArg (fun r : RS => r.1.length) h2
   simp only [List.length_drop] at h3
   have h4 : t = [] := fm_less (f := YK) Za (by have := HN.out; omega)
   rw [h1, h4, List.append_nil])
  have hcap := (Yh (show World.ownsRow _ 0 64 7 (.slice A L.length cA) L.length _ from HS.out.at 0 rfl)).2
  obtain ⟨J2, Zd, hs7, hcl⟩ := HS.out.ZR
  clear HS
  have HS := VL hs7
  have HCC := VL (And.intro hcap (And.intro Zd hcl))
  clear hs7 hcap Zd hcl
  go_upto_region 34 with fail
  have HCC2 := HCC
  have hb : ZO _ q6 56 _ := HS.out.at 0 rfl
  have hb2 : ZO _ q2 56 _ := HS.out.at 1 rfl
  have hone : (#[.int .i64 0, .int .u32 x1, .int .u32 0, .int .u64 0, .int .u32 0, .int .u32 0, .int .u32 0, .slice A L.length cA, .string ⟨#[]⟩, .slice none 0 0, .slice none 0 0, .int .u16 0, .int .u32 0, .int .u8 0, .slice none 0 0, .slice none 0 0] : Array Value).all (·.oneCell') = true := by kernel_rfl
  have HS6 := VL (HS.out.YS #[.int .i64 0, .int .u32 x1, .int .u32 0, .int .u64 0, .int .u32 0, .int .u32 0, .int .u32 0, .slice A L.length cA, .string ⟨#[]⟩, .slice none 0 0, .slice none 0 0, .int .u16 0, .int .u32 0, .int .u8 0, .slice none 0 0, .slice none 0 0])
  clear HS
  go_wp2_with (first | refine wpList_load_row rfl 56 (.tmp 6) rfl q6 rfl 56 _ (0, 0) _ hb hd rfl Zn ?_ | refine wpList_store_row rfl 56 (.tmp 2) (.tmp _) rfl q2 #[.int .i64 0, .int .u32 x1, .int .u32 0, .int .u64 0, .int .u32 0, .int .u32 0, .int .u32 0, .slice A L.length cA, .string ⟨#[]⟩, .slice none 0 0, .slice none 0 0, .int .u16 0, .int .u32 0, .int .u8 0, .slice none 0 0, .slice none 0 0] rfl rfl 56 _ hb2 Zn rfl hone ?_)
  refine bodyPost_ret (Zp (p := 2) (u := 3) Try.results23 _ _ q2 56 _ (0, 0) _ rfl (HS6.out.at 1 rfl) hd rfl Zn) rfl ?_
  refine ⟨J2, ⟨0, x1, 0, 0, 0, 0, 0, L, ⟨#[]⟩, [], [], 0, 0, 0, [], []⟩, ⟨.slice A L.length cA, YA, YA, YA, YA⟩, true, rfl, HCC.out.2.1, HS6.out.drop.drop, by obtain ⟨hcap, _, hcl⟩ := HCC.out; exact ⟨⟨A, cA, rfl, hcl, hcap⟩, Y4.nil J2 _, Y4.nil J2 _, Y4.nil J2 _, Y4.nil J2 _⟩, X5 ⟨x1a, x1b⟩ (by simp) (by simp) (by simp) (by simp) (by simp) YZ.out.2.1 (by simp) (by simp) (by simp) (by simp) (by simp) (by simp) (by have := YZ.out.1; simp only []; omega) (Nat.zero_le _) (Nat.zero_le _) (Nat.zero_le _) (Nat.zero_le _) (Nat.zero_le _), fun p hp => ?_⟩
  refine ⟨rfl, ?_⟩
  have h5 := (HF.out p hp).1
  rw [HE.out p hp] at h5
  exact h5
set_option maxRecDepth 100000 in
set_option maxHeartbeats 20000000 in
theorem refx0 (I : Zh) (M : List Zt) (w : World) (g o c : Nat) (bs : List UInt8) (T : Pk -> Prop) (hB : Zq I (some ⟨g, o, none⟩) bs) (hc : bs.length <= c) (h4 : 4 <= bs.length) (hm : bs.length <= 262144) (hT : ∀ p, T p -> Good p /\ Y6 p /\ bs = ZV p) (kb : Int) (lw : Int) (hkb : Yl bs 1 1 = kb) (hlw : Yl bs 0 1 % 32 = lw) (h8 : 12 <= bs.length) (n200 : kb ≠ 200) (n201 : kb ≠ 201) (n202 : kb ≠ 202) (n203 : kb ≠ 203) (n205 : kb ≠ 205) (n206 : kb ≠ 206) (ZX : St I M w) :
  Calls Try.prog 23 #[.slice (some ⟨g, o, none⟩) bs.length c] w (WF I M T) := by
 obtain ⟨q2, y0, n, fs, hq2, HT, HB, ZY, hy0, hy1, hand, hlr0, hlr1, hkr0, hkr1, HKB, hn, hd⟩ := Xa hB hc h4 hT hkb hlw ZX
 have HN := VL hn
 rw [<- hn] at hc h4 hm ⊢
 rw [<- hn] at h8
 clear ZX hT hB hkb hlw hn
 go_enter Try.func23, Try.ntmps23
 go_upto_region 1 with fail
 rw [<- hq2]
 clear hq2
 generalize World.alloc w _ = W at ZY hy0 hy1 ⊢
 go_quiet (fail)
 rename_i nq
 have YN := ZY.drewN nq
 clear ZY hy0 hy1 hand
 generalize W.drewN nq = W1 at YN ⊢
 obtain ⟨q6, hq6⟩ : ∃ q, q = W1.heap.size := ⟨_, rfl⟩
 have Zf := YN.alloc 56 #[.int .i64 0, .int .u32 0, .int .u32 0, .int .u64 0, .int .u32 0, .int .u32 0, .int .u32 0, .slice none 0 0, .string ⟨#[]⟩, .slice none 0 0, .slice none 0 0, .int .u16 0, .int .u32 0, .int .u8 0, .slice none 0 0, .slice none 0 0]
 rw [<- hq6] at Zf
 clear YN
 go_upto_region 3 with fail
 rw [<- hq6]
 clear hq6
 generalize World.alloc W1 _ = W2 at Zf ⊢
 have HS := VL Zf
 clear Zf
 obtain ⟨hcA, hfA, hlA⟩ := ZO.all (HS.out.at 0 rfl)
 have e0 : (kb == 200) = false := by rw [beq_eq_false_iff_ne]; exact n200
 have e1 : (kb == 201) = false := by rw [beq_eq_false_iff_ne]; exact n201
 have e2 : (kb == 202) = false := by rw [beq_eq_false_iff_ne]; exact n202
 have e3 : (kb == 203) = false := by rw [beq_eq_false_iff_ne]; exact n203
 have e4 : (kb == 205) = false := by rw [beq_eq_false_iff_ne]; exact n205
 have e5 : (kb == 206) = false := by rw [beq_eq_false_iff_ne]; exact n206
 have HNO := VL (show True from trivial)
 have Hn200 := VL n200
 have Hn201 := VL n201
 have Hn202 := VL n202
 have Hn203 := VL n203
 have Hn205 := VL n205
 have Hn206 := VL n206
 clear n200 n201 n202 n203 n205 n206
 have HC := XT I _ _ g o c bs (4) (HB.out) (by rw [<- HN.out]; exact hc) (by rw [<- HN.out]; omega) (by rw [<- HN.out]; omega) HS.out
 rw [<- HN.out] at HC
 obtain ⟨x1, hx⟩ : ∃ z, z = Yl bs (4) 4 := ⟨_, rfl⟩
 have hr := Ym bs (4)
 rw [<- hx] at HC hr
 obtain ⟨x1a, x1b⟩ := hr
 have HC := VL HC
 have Hx1 := VL hx
 clear hx
 go_wp2_with fail
 go_at_call 56
 refine HC.out.mono ?_
 clear HC
 rintro e w9 ⟨rfl, hw⟩
 subst hw
 have Zv := (HS.out.set 1 (.int .u32 x1))
 go_upto_region 35 with fail
 generalize World.setCell W2 _ _ = W3 at Zv ⊢
 clear HS hcA hfA hlA
 have HS := VL Zv
 clear Zv
 obtain ⟨hcA, hfA, hlA⟩ := ZO.all (HS.out.at 0 rfl)
 have HC := XT I _ _ g o c bs (8) (HB.out) (by rw [<- HN.out]; exact hc) (by rw [<- HN.out]; omega) (by rw [<- HN.out]; omega) HS.out
 rw [<- HN.out] at HC
 obtain ⟨x2, hx⟩ : ∃ z, z = Yl bs (8) 4 := ⟨_, rfl⟩
 have hr := Ym bs (8)
 rw [<- hx] at HC hr
 obtain ⟨x2a, x2b⟩ := hr
 have HC := VL HC
 have Hx2 := VL hx
 clear hx
 go_wp2_with fail
 go_at_call 56
 refine HC.out.mono ?_
 clear HC
 rintro e w9 ⟨rfl, hw⟩
 subst hw
 have Zv := HS.out.set 2 (.int .u32 x2)
 go_upto_region 78 with fail
 generalize World.setCell W3 _ _ = W4 at Zv ⊢
 clear HS hcA hfA hlA
 have HS := VL Zv
 clear Zv
 have hb : ZO W4 q6 56 _ := HS.out.at 0 rfl
 have hb2 : ZO W4 q2 56 _ := HS.out.at 1 rfl
 have hone : (#[.int .i64 0, .int .u32 x1, .int .u32 x2, .int .u64 0, .int .u32 0, .int .u32 0, .int .u32 0, .slice none 0 0, .string ⟨#[]⟩, .slice none 0 0, .slice none 0 0, .int .u16 0, .int .u32 0, .int .u8 0, .slice none 0 0, .slice none 0 0] : Array Value).all (·.oneCell') = true := by kernel_rfl
 have HS6 := VL (HS.out.YS #[.int .i64 0, .int .u32 x1, .int .u32 x2, .int .u64 0, .int .u32 0, .int .u32 0, .int .u32 0, .slice none 0 0, .string ⟨#[]⟩, .slice none 0 0, .slice none 0 0, .int .u16 0, .int .u32 0, .int .u8 0, .slice none 0 0, .slice none 0 0])
 clear HS
 go_wp2_with (first | refine wpList_load_row rfl 56 (.tmp 6) rfl q6 rfl 56 _ (0, 0) _ hb hd rfl Zn ?_ | refine wpList_store_row rfl 56 (.tmp 2) (.tmp _) rfl q2 #[.int .i64 0, .int .u32 x1, .int .u32 x2, .int .u64 0, .int .u32 0, .int .u32 0, .int .u32 0, .slice none 0 0, .string ⟨#[]⟩, .slice none 0 0, .slice none 0 0, .int .u16 0, .int .u32 0, .int .u8 0, .slice none 0 0, .slice none 0 0] rfl rfl 56 _ hb2 Zn rfl hone ?_)
 refine bodyPost_ret (Zp (p := 2) (u := 3) Try.results23 _ _ q2 56 _ (0, 0) _ rfl (HS6.out.at 1 rfl) hd rfl Zn) rfl ?_
 refine ⟨I, ⟨0, x1, x2, 0, 0, 0, 0, [], ⟨#[]⟩, [], [], 0, 0, 0, [], []⟩, VH, true, rfl, .refl I, HS6.out.drop.drop, Xc I 0 x1 x2, XO 0 x1 x2 ⟨x1a, x1b⟩ ⟨x2a, x2b⟩, fun p hp => ?_⟩
 exfalso
 obtain ⟨hg, hok, hbs⟩ := HT.out p hp
 obtain ⟨k1, k8, _⟩ := Y5 hg hbs
 have hkk := XF hg hbs HKB.out.1 HKB.out.2
 have hll := WJ hg hbs
 rw [<- HN.out] at hll
 have n200 := Hn200.out
 have n201 := Hn201.out
 have n202 := Hn202.out
 have n203 := Hn203.out
 have n205 := Hn205.out
 have n206 := Hn206.out
 omega
set_option maxRecDepth 100000 in
set_option maxHeartbeats 20000000 in
theorem refx5a (I : Zh) (M : List Zt) (w : World) (g o c : Nat) (bs : List UInt8) (T : Pk -> Prop) (hB : Zq I (some ⟨g, o, none⟩) bs) (hc : bs.length <= c) (h4 : 4 <= bs.length) (hm : bs.length <= 262144) (hT : ∀ p, T p -> Good p /\ Y6 p /\ bs = ZV p) (lw : Int) (hkb : Yl bs 1 1 = 205) (hlw : Yl bs 0 1 % 32 = lw) (h8 : 12 <= bs.length) (l1 : lw ≠ 1) (l15 : lw ≠ 15) (ZX : St I M w) :
  Calls Try.prog 23 #[.slice (some ⟨g, o, none⟩) bs.length c] w (WF I M T) := by
 obtain ⟨q2, y0, n, fs, hq2, HT, HB, ZY, hy0, hy1, hand, hlr0, hlr1, hkr0, hkr1, HKB, hn, hd⟩ := Xa hB hc h4 hT hkb hlw ZX
 have HN := VL hn
 rw [<- hn] at hc h4 hm ⊢
 rw [<- hn] at h8
 clear ZX hT hB hkb hlw hn
 go_enter Try.func23, Try.ntmps23
 go_upto_region 1 with fail
 rw [<- hq2]
 clear hq2
 generalize World.alloc w _ = W at ZY hy0 hy1 ⊢
 go_quiet (fail)
 rename_i nq
 have YN := ZY.drewN nq
 clear ZY hy0 hy1 hand
 generalize W.drewN nq = W1 at YN ⊢
 obtain ⟨q6, hq6⟩ : ∃ q, q = W1.heap.size := ⟨_, rfl⟩
 have Zf := YN.alloc 56 #[.int .i64 0, .int .u32 0, .int .u32 0, .int .u64 0, .int .u32 0, .int .u32 0, .int .u32 0, .slice none 0 0, .string ⟨#[]⟩, .slice none 0 0, .slice none 0 0, .int .u16 0, .int .u32 0, .int .u8 0, .slice none 0 0, .slice none 0 0]
 rw [<- hq6] at Zf
 clear YN
 go_upto_region 3 with fail
 rw [<- hq6]
 clear hq6
 generalize World.alloc W1 _ = W2 at Zf ⊢
 have HS := VL Zf
 clear Zf
 obtain ⟨hcA, hfA, hlA⟩ := ZO.all (HS.out.at 0 rfl)
 have f1 : (lw == 1) = false := by rw [beq_eq_false_iff_ne]; exact l1
 have f15 : (lw == 15) = false := by rw [beq_eq_false_iff_ne]; exact l15
 have HNO := VL (show True from trivial)
 have Hl1 := VL l1
 have Hl15 := VL l15
 clear l1 l15
 have HC := XT I _ _ g o c bs (4) (HB.out) (by rw [<- HN.out]; exact hc) (by rw [<- HN.out]; omega) (by rw [<- HN.out]; omega) HS.out
 rw [<- HN.out] at HC
 obtain ⟨x1, hx⟩ : ∃ z, z = Yl bs (4) 4 := ⟨_, rfl⟩
 have hr := Ym bs (4)
 rw [<- hx] at HC hr
 obtain ⟨x1a, x1b⟩ := hr
 have HC := VL HC
 have Hx1 := VL hx
 clear hx
 go_wp2_with fail
 go_at_call 56
 refine HC.out.mono ?_
 clear HC
 rintro e w9 ⟨rfl, hw⟩
 subst hw
 have Zv := (HS.out.set 1 (.int .u32 x1))
 go_upto_region 35 with fail
 generalize World.setCell W2 _ _ = W3 at Zv ⊢
 clear HS hcA hfA hlA
 have HS := VL Zv
 clear Zv
 obtain ⟨hcA, hfA, hlA⟩ := ZO.all (HS.out.at 0 rfl)
 have HC := XT I _ _ g o c bs (8) (HB.out) (by rw [<- HN.out]; exact hc) (by rw [<- HN.out]; omega) (by rw [<- HN.out]; omega) HS.out
 rw [<- HN.out] at HC
 obtain ⟨x2, hx⟩ : ∃ z, z = Yl bs (8) 4 := ⟨_, rfl⟩
 have hr := Ym bs (8)
 rw [<- hx] at HC hr
 obtain ⟨x2a, x2b⟩ := hr
 have HC := VL HC
 have Hx2 := VL hx
 clear hx
 go_wp2_with fail
 go_at_call 56
 refine HC.out.mono ?_
 clear HC
 rintro e w9 ⟨rfl, hw⟩
 subst hw
 have Zv := HS.out.set 2 (.int .u32 x2)
 go_upto_region 78 with fail
 generalize World.setCell W3 _ _ = W4 at Zv ⊢
 clear HS hcA hfA hlA
 have HS := VL Zv
 clear Zv
 have hb : ZO W4 q6 56 _ := HS.out.at 0 rfl
 have hb2 : ZO W4 q2 56 _ := HS.out.at 1 rfl
 have hone : (#[.int .i64 0, .int .u32 x1, .int .u32 x2, .int .u64 0, .int .u32 0, .int .u32 0, .int .u32 0, .slice none 0 0, .string ⟨#[]⟩, .slice none 0 0, .slice none 0 0, .int .u16 0, .int .u32 0, .int .u8 0, .slice none 0 0, .slice none 0 0] : Array Value).all (·.oneCell') = true := by kernel_rfl
 have HS6 := VL (HS.out.YS #[.int .i64 0, .int .u32 x1, .int .u32 x2, .int .u64 0, .int .u32 0, .int .u32 0, .int .u32 0, .slice none 0 0, .string ⟨#[]⟩, .slice none 0 0, .slice none 0 0, .int .u16 0, .int .u32 0, .int .u8 0, .slice none 0 0, .slice none 0 0])
 clear HS
 go_wp2_with (first | refine wpList_load_row rfl 56 (.tmp 6) rfl q6 rfl 56 _ (0, 0) _ hb hd rfl Zn ?_ | refine wpList_store_row rfl 56 (.tmp 2) (.tmp _) rfl q2 #[.int .i64 0, .int .u32 x1, .int .u32 x2, .int .u64 0, .int .u32 0, .int .u32 0, .int .u32 0, .slice none 0 0, .string ⟨#[]⟩, .slice none 0 0, .slice none 0 0, .int .u16 0, .int .u32 0, .int .u8 0, .slice none 0 0, .slice none 0 0] rfl rfl 56 _ hb2 Zn rfl hone ?_)
 refine bodyPost_ret (Zp (p := 2) (u := 3) Try.results23 _ _ q2 56 _ (0, 0) _ rfl (HS6.out.at 1 rfl) hd rfl Zn) rfl ?_
 refine ⟨I, ⟨0, x1, x2, 0, 0, 0, 0, [], ⟨#[]⟩, [], [], 0, 0, 0, [], []⟩, VH, true, rfl, .refl I, HS6.out.drop.drop, Xc I 0 x1 x2, XO 0 x1 x2 ⟨x1a, x1b⟩ ⟨x2a, x2b⟩, fun p hp => ?_⟩
 exfalso
 obtain ⟨hg, hok, hbs⟩ := HT.out p hp
 obtain ⟨k1, k8, _⟩ := Y5 hg hbs
 have hkk := XF hg hbs HKB.out.1 HKB.out.2
 have hll := WJ hg hbs
 rw [<- HN.out] at hll
 have l1 := Hl1.out
 have l15 := Hl15.out
 omega
set_option maxRecDepth 100000 in
set_option maxHeartbeats 20000000 in
theorem refx5b (I : Zh) (M : List Zt) (w : World) (g o c : Nat) (bs : List UInt8) (T : Pk -> Prop) (hB : Zq I (some ⟨g, o, none⟩) bs) (hc : bs.length <= c) (h4 : 4 <= bs.length) (_hm : bs.length <= 262144) (hT : ∀ p, T p -> Good p /\ Y6 p /\ bs = ZV p) (hkb : Yl bs 1 1 = 205) (hlw : Yl bs 0 1 % 32 = 15) (h8 : 12 <= bs.length) (h20 : bs.length < 20) (ZX : St I M w) :
  Calls Try.prog 23 #[.slice (some ⟨g, o, none⟩) bs.length c] w (WF I M T) := by
 obtain ⟨q2, y0, n, fs, hq2, HT, HB, ZY, hy0, hy1, hand, hlr0, hlr1, hkr0, hkr1, HKB, hn, hd⟩ := Xa hB hc h4 hT hkb hlw ZX
 have HN := VL hn
 rw [<- hn] at hc h4 _hm ⊢
 rw [<- hn] at h8 h20
 clear ZX hT hB hkb hlw hn
 go_enter Try.func23, Try.ntmps23
 go_upto_region 1 with fail
 rw [<- hq2]
 clear hq2
 generalize World.alloc w _ = W at ZY hy0 hy1 ⊢
 go_quiet (fail)
 rename_i nq
 have YN := ZY.drewN nq
 clear ZY hy0 hy1 hand
 generalize W.drewN nq = W1 at YN ⊢
 obtain ⟨q6, hq6⟩ : ∃ q, q = W1.heap.size := ⟨_, rfl⟩
 have Zf := YN.alloc 56 #[.int .i64 0, .int .u32 0, .int .u32 0, .int .u64 0, .int .u32 0, .int .u32 0, .int .u32 0, .slice none 0 0, .string ⟨#[]⟩, .slice none 0 0, .slice none 0 0, .int .u16 0, .int .u32 0, .int .u8 0, .slice none 0 0, .slice none 0 0]
 rw [<- hq6] at Zf
 clear YN
 go_upto_region 3 with fail
 rw [<- hq6]
 clear hq6
 generalize World.alloc W1 _ = W2 at Zf ⊢
 have HS := VL Zf
 clear Zf
 obtain ⟨hcA, hfA, hlA⟩ := ZO.all (HS.out.at 0 rfl)
 have HNO := VL (show True from trivial)
 have HC := XT I _ _ g o c bs (4) (HB.out) (by rw [<- HN.out]; exact hc) (by rw [<- HN.out]; omega) (by rw [<- HN.out]; omega) HS.out
 rw [<- HN.out] at HC
 obtain ⟨x1, hx⟩ : ∃ z, z = Yl bs (4) 4 := ⟨_, rfl⟩
 have hr := Ym bs (4)
 rw [<- hx] at HC hr
 obtain ⟨x1a, x1b⟩ := hr
 have HC := VL HC
 have Hx1 := VL hx
 clear hx
 go_wp2_with fail
 go_at_call 56
 refine HC.out.mono ?_
 clear HC
 rintro e w9 ⟨rfl, hw⟩
 subst hw
 have Zv := (HS.out.set 1 (.int .u32 x1))
 go_upto_region 35 with fail
 generalize World.setCell W2 _ _ = W3 at Zv ⊢
 clear HS hcA hfA hlA
 have HS := VL Zv
 clear Zv
 obtain ⟨hcA, hfA, hlA⟩ := ZO.all (HS.out.at 0 rfl)
 have HC := XT I _ _ g o c bs (8) (HB.out) (by rw [<- HN.out]; exact hc) (by rw [<- HN.out]; omega) (by rw [<- HN.out]; omega) HS.out
 rw [<- HN.out] at HC
 obtain ⟨x2, hx⟩ : ∃ z, z = Yl bs (8) 4 := ⟨_, rfl⟩
 have hr := Ym bs (8)
 rw [<- hx] at HC hr
 obtain ⟨x2a, x2b⟩ := hr
 have HC := VL HC
 have Hx2 := VL hx
 clear hx
 go_wp2_with fail
 go_at_call 56
 refine HC.out.mono ?_
 clear HC
 rintro e w9 ⟨rfl, hw⟩
 subst hw
 have Zv := HS.out.set 2 (.int .u32 x2)
 go_upto_region 78 with fail
 generalize World.setCell W3 _ _ = W4 at Zv ⊢
 clear HS hcA hfA hlA
 have HS := VL Zv
 clear Zv
 have hb : ZO W4 q6 56 _ := HS.out.at 0 rfl
 have hb2 : ZO W4 q2 56 _ := HS.out.at 1 rfl
 have hone : (#[.int .i64 0, .int .u32 x1, .int .u32 x2, .int .u64 0, .int .u32 0, .int .u32 0, .int .u32 0, .slice none 0 0, .string ⟨#[]⟩, .slice none 0 0, .slice none 0 0, .int .u16 0, .int .u32 0, .int .u8 0, .slice none 0 0, .slice none 0 0] : Array Value).all (·.oneCell') = true := by kernel_rfl
 have HS6 := VL (HS.out.YS #[.int .i64 0, .int .u32 x1, .int .u32 x2, .int .u64 0, .int .u32 0, .int .u32 0, .int .u32 0, .slice none 0 0, .string ⟨#[]⟩, .slice none 0 0, .slice none 0 0, .int .u16 0, .int .u32 0, .int .u8 0, .slice none 0 0, .slice none 0 0])
 clear HS
 go_wp2_with (first | refine wpList_load_row rfl 56 (.tmp 6) rfl q6 rfl 56 _ (0, 0) _ hb hd rfl Zn ?_ | refine wpList_store_row rfl 56 (.tmp 2) (.tmp _) rfl q2 #[.int .i64 0, .int .u32 x1, .int .u32 x2, .int .u64 0, .int .u32 0, .int .u32 0, .int .u32 0, .slice none 0 0, .string ⟨#[]⟩, .slice none 0 0, .slice none 0 0, .int .u16 0, .int .u32 0, .int .u8 0, .slice none 0 0, .slice none 0 0] rfl rfl 56 _ hb2 Zn rfl hone ?_)
 refine bodyPost_ret (Zp (p := 2) (u := 3) Try.results23 _ _ q2 56 _ (0, 0) _ rfl (HS6.out.at 1 rfl) hd rfl Zn) rfl ?_
 refine ⟨I, ⟨0, x1, x2, 0, 0, 0, 0, [], ⟨#[]⟩, [], [], 0, 0, 0, [], []⟩, VH, true, rfl, .refl I, HS6.out.drop.drop, Xc I 0 x1 x2, XO 0 x1 x2 ⟨x1a, x1b⟩ ⟨x2a, x2b⟩, fun p hp => ?_⟩
 exfalso
 obtain ⟨hg, hok, hbs⟩ := HT.out p hp
 obtain ⟨k1, k8, _⟩ := Y5 hg hbs
 have hkk := XF hg hbs HKB.out.1 HKB.out.2
 have hll := WJ hg hbs
 rw [<- HN.out] at hll
 
 omega
set_option maxRecDepth 100000 in
set_option maxHeartbeats 20000000 in
theorem refx6 (I : Zh) (M : List Zt) (w : World) (g o c : Nat) (bs : List UInt8) (T : Pk -> Prop) (hB : Zq I (some ⟨g, o, none⟩) bs) (hc : bs.length <= c) (h4 : 4 <= bs.length) (hm : bs.length <= 262144) (hT : ∀ p, T p -> Good p /\ Y6 p /\ bs = ZV p) (lw : Int) (hkb : Yl bs 1 1 = 206) (hlw : Yl bs 0 1 % 32 = lw) (h8 : 12 <= bs.length) (l1 : lw ≠ 1) (l4 : lw ≠ 4) (ZX : St I M w) :
  Calls Try.prog 23 #[.slice (some ⟨g, o, none⟩) bs.length c] w (WF I M T) := by
 obtain ⟨q2, y0, n, fs, hq2, HT, HB, ZY, hy0, hy1, hand, hlr0, hlr1, hkr0, hkr1, HKB, hn, hd⟩ := Xa hB hc h4 hT hkb hlw ZX
 have HN := VL hn
 rw [<- hn] at hc h4 hm ⊢
 rw [<- hn] at h8
 clear ZX hT hB hkb hlw hn
 go_enter Try.func23, Try.ntmps23
 go_upto_region 1 with fail
 rw [<- hq2]
 clear hq2
 generalize World.alloc w _ = W at ZY hy0 hy1 ⊢
 go_quiet (fail)
 rename_i nq
 have YN := ZY.drewN nq
 clear ZY hy0 hy1 hand
 generalize W.drewN nq = W1 at YN ⊢
 obtain ⟨q6, hq6⟩ : ∃ q, q = W1.heap.size := ⟨_, rfl⟩
 have Zf := YN.alloc 56 #[.int .i64 0, .int .u32 0, .int .u32 0, .int .u64 0, .int .u32 0, .int .u32 0, .int .u32 0, .slice none 0 0, .string ⟨#[]⟩, .slice none 0 0, .slice none 0 0, .int .u16 0, .int .u32 0, .int .u8 0, .slice none 0 0, .slice none 0 0]
 rw [<- hq6] at Zf
 clear YN
 go_upto_region 3 with fail
 rw [<- hq6]
 clear hq6
 generalize World.alloc W1 _ = W2 at Zf ⊢
 have HS := VL Zf
 clear Zf
 obtain ⟨hcA, hfA, hlA⟩ := ZO.all (HS.out.at 0 rfl)
 have f1 : (lw == 1) = false := by rw [beq_eq_false_iff_ne]; exact l1
 have f4 : (lw == 4) = false := by rw [beq_eq_false_iff_ne]; exact l4
 have HNO := VL (show True from trivial)
 have Hl1 := VL l1
 have Hl4 := VL l4
 clear l1 l4
 have HC := XT I _ _ g o c bs (4) (HB.out) (by rw [<- HN.out]; exact hc) (by rw [<- HN.out]; omega) (by rw [<- HN.out]; omega) HS.out
 rw [<- HN.out] at HC
 obtain ⟨x1, hx⟩ : ∃ z, z = Yl bs (4) 4 := ⟨_, rfl⟩
 have hr := Ym bs (4)
 rw [<- hx] at HC hr
 obtain ⟨x1a, x1b⟩ := hr
 have HC := VL HC
 have Hx1 := VL hx
 clear hx
 go_wp2_with fail
 go_at_call 56
 refine HC.out.mono ?_
 clear HC
 rintro e w9 ⟨rfl, hw⟩
 subst hw
 have Zv := (HS.out.set 1 (.int .u32 x1))
 go_upto_region 35 with fail
 generalize World.setCell W2 _ _ = W3 at Zv ⊢
 clear HS hcA hfA hlA
 have HS := VL Zv
 clear Zv
 obtain ⟨hcA, hfA, hlA⟩ := ZO.all (HS.out.at 0 rfl)
 have HC := XT I _ _ g o c bs (8) (HB.out) (by rw [<- HN.out]; exact hc) (by rw [<- HN.out]; omega) (by rw [<- HN.out]; omega) HS.out
 rw [<- HN.out] at HC
 obtain ⟨x2, hx⟩ : ∃ z, z = Yl bs (8) 4 := ⟨_, rfl⟩
 have hr := Ym bs (8)
 rw [<- hx] at HC hr
 obtain ⟨x2a, x2b⟩ := hr
 have HC := VL HC
 have Hx2 := VL hx
 clear hx
 go_wp2_with fail
 go_at_call 56
 refine HC.out.mono ?_
 clear HC
 rintro e w9 ⟨rfl, hw⟩
 subst hw
 have Zv := HS.out.set 2 (.int .u32 x2)
 go_upto_region 78 with fail
 generalize World.setCell W3 _ _ = W4 at Zv ⊢
 clear HS hcA hfA hlA
 have HS := VL Zv
 clear Zv
 have hb : ZO W4 q6 56 _ := HS.out.at 0 rfl
 have hb2 : ZO W4 q2 56 _ := HS.out.at 1 rfl
 have hone : (#[.int .i64 0, .int .u32 x1, .int .u32 x2, .int .u64 0, .int .u32 0, .int .u32 0, .int .u32 0, .slice none 0 0, .string ⟨#[]⟩, .slice none 0 0, .slice none 0 0, .int .u16 0, .int .u32 0, .int .u8 0, .slice none 0 0, .slice none 0 0] : Array Value).all (·.oneCell') = true := by kernel_rfl
 have HS6 := VL (HS.out.YS #[.int .i64 0, .int .u32 x1, .int .u32 x2, .int .u64 0, .int .u32 0, .int .u32 0, .int .u32 0, .slice none 0 0, .string ⟨#[]⟩, .slice none 0 0, .slice none 0 0, .int .u16 0, .int .u32 0, .int .u8 0, .slice none 0 0, .slice none 0 0])
 clear HS
 go_wp2_with (first | refine wpList_load_row rfl 56 (.tmp 6) rfl q6 rfl 56 _ (0, 0) _ hb hd rfl Zn ?_ | refine wpList_store_row rfl 56 (.tmp 2) (.tmp _) rfl q2 #[.int .i64 0, .int .u32 x1, .int .u32 x2, .int .u64 0, .int .u32 0, .int .u32 0, .int .u32 0, .slice none 0 0, .string ⟨#[]⟩, .slice none 0 0, .slice none 0 0, .int .u16 0, .int .u32 0, .int .u8 0, .slice none 0 0, .slice none 0 0] rfl rfl 56 _ hb2 Zn rfl hone ?_)
 refine bodyPost_ret (Zp (p := 2) (u := 3) Try.results23 _ _ q2 56 _ (0, 0) _ rfl (HS6.out.at 1 rfl) hd rfl Zn) rfl ?_
 refine ⟨I, ⟨0, x1, x2, 0, 0, 0, 0, [], ⟨#[]⟩, [], [], 0, 0, 0, [], []⟩, VH, true, rfl, .refl I, HS6.out.drop.drop, Xc I 0 x1 x2, XO 0 x1 x2 ⟨x1a, x1b⟩ ⟨x2a, x2b⟩, fun p hp => ?_⟩
 exfalso
 obtain ⟨hg, hok, hbs⟩ := HT.out p hp
 obtain ⟨k1, k8, _⟩ := Y5 hg hbs
 have hkk := XF hg hbs HKB.out.1 HKB.out.2
 have hll := WJ hg hbs
 rw [<- HN.out] at hll
 have l1 := Hl1.out
 have l4 := Hl4.out
 omega
theorem refReadC (I : Zh) (M : List Zt) (w : World) (g o c : Nat) (bs : List UInt8) (T : Pk -> Prop) (hB : Zq I (some ⟨g, o, none⟩) bs) (hc : bs.length <= c) (h4 : 4 <= bs.length) (hm : bs.length <= 262144) (hT : ∀ p, T p -> Good p /\ Y6 p /\ bs = ZV p) (ZX : St I M w) :
  Calls Try.prog 23 #[.slice (some ⟨g, o, none⟩) bs.length c] w (WF I M T) := by
 obtain ⟨kb, hkb⟩ : ∃ z, Yl bs 1 1 = z := ⟨_, rfl⟩
 obtain ⟨lw, hlw⟩ : ∃ z, Yl bs 0 1 % 32 = z := ⟨_, rfl⟩
 by_cases n203 : kb = 203
 ·subst n203
  exact ref4 I M w g o c bs T hB hc h4 hm hT lw hkb hlw ZX
 rcases Nat.lt_or_ge bs.length 8 with h8 | h8
 ·exact refb I M w g o c bs T hB hc h4 hm hT kb lw hkb hlw h8 n203 ZX
 by_cases n201 : kb = 201
 ·subst n201
  exact ref2 I M w g o c bs T hB hc h4 hm hT lw hkb hlw h8 ZX
 rcases Nat.lt_or_ge bs.length 12 with h12 | h12
 ·by_cases n200 : kb = 200
  ·subst n200
   exact reff200 I M w g o c bs T hB hc h4 hm hT lw hkb hlw h8 h12 ZX
  by_cases n202 : kb = 202
  ·subst n202
   exact reff202 I M w g o c bs T hB hc h4 hm hT lw hkb hlw h8 h12 ZX
  exact reffx I M w g o c bs T hB hc h4 hm hT kb lw hkb hlw h8 h12 n200 n201 n202 n203 ZX
 by_cases n200 : kb = 200
 ·subst n200
  rcases Nat.lt_or_ge bs.length 28 with h28 | h28
  ·exact refg I M w g o c bs T hB hc h4 hm hT lw hkb hlw h12 h28 ZX
  exact ref1 I M w g o c bs T hB hc h4 hm hT lw hkb hlw h28 ZX
 by_cases n202 : kb = 202
 ·subst n202
  exact ref3 I M w g o c bs T hB hc h4 hm hT lw hkb hlw h12 ZX
 by_cases n205 : kb = 205
 ·subst n205
  by_cases l1 : lw = 1
  ·subst l1
   exact ref5 I M w g o c bs T hB hc h4 hm hT hkb hlw h12 ZX
  by_cases l15 : lw = 15
  ·subst l15
   rcases Nat.lt_or_ge bs.length 20 with h20 | h20
   ·exact refx5b I M w g o c bs T hB hc h4 hm hT hkb hlw h12 h20 ZX
   exact ref6 I M w g o c bs T hB hc h4 hm hT hkb hlw h20 ZX
  exact refx5a I M w g o c bs T hB hc h4 hm hT lw hkb hlw h12 l1 l15 ZX
 by_cases n206 : kb = 206
 ·subst n206
  by_cases l1 : lw = 1
  ·subst l1
   exact ref7 I M w g o c bs T hB hc h4 hm hT hkb hlw h12 ZX
  by_cases l4 : lw = 4
  ·subst l4
   exact ref8 I M w g o c bs T hB hc h4 hm hT hkb hlw h12 ZX
  exact refx6 I M w g o c bs T hB hc h4 hm hT lw hkb hlw h12 l1 l4 ZX
 exact refx0 I M w g o c bs T hB hc h4 hm hT kb lw hkb hlw h12 n200 n201 n202 n203 n205 n206 ZX
end Go.Proofs.Ytddopbbmgpnjjaa
