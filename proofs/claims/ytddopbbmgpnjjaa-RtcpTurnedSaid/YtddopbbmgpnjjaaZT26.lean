/- part. -/
import Derived.Test.YtddopbbmgpnjjaaZT25
namespace Go.Proofs.Ytddopbbmgpnjjaa
set_option linter.unusedSimpArgs false
open Go.RowKit
set_option maxRecDepth 100000 in
set_option maxHeartbeats 20000000 in
theorem ref6 (I : Zh) (M : List Zt) (w : World) (g o c : Nat) (bs : List UInt8) (T : Pk -> Prop) (hB : Zq I (some ⟨g, o, none⟩) bs) (hc : bs.length <= c) (h4 : 4 <= bs.length) (hm : bs.length <= 262144) (hT : ∀ p, T p -> Good p /\ Y6 p /\ bs = ZV p) (hkb : Yl bs 1 1 = 205) (hlw : Yl bs 0 1 % 32 = 15) (h8 : 20 <= bs.length) (ZX : St I M w) :
  Calls Try.prog 23 #[.slice (some ⟨g, o, none⟩) bs.length c] w (WF I M T) := by
 obtain ⟨q2, y0, n, fs, hq2, HT, HB, ZY, hy0, hy1, hand, hlr0, hlr1, hkr0, hkr1, HKB, hn, hd⟩ := Xa hB hc h4 hT hkb hlw ZX
 have HN := VL hn
 rw [<- hn] at hc h4 hm ⊢
 rw [<- hn] at h8
 clear ZX hT hB hkb hlw hn
 go_enter Try.func23, Try.ntmps23
 go_upto_region 1 with fail
 rw [<- hq2]
 clear hq2
 generalize World.alloc w _ = W at ZY hy0 hy1 ⊢
 go_quiet (fail)
 rename_i nq
 have YN := ZY.drewN nq
 clear ZY hy0 hy1 hand
 generalize W.drewN nq = W1 at YN ⊢
 obtain ⟨q6, hq6⟩ : ∃ q, q = W1.heap.size := ⟨_, rfl⟩
 have Zf := YN.alloc 56 #[.int .i64 0, .int .u32 0, .int .u32 0, .int .u64 0, .int .u32 0, .int .u32 0, .int .u32 0, .slice none 0 0, .string ⟨#[]⟩, .slice none 0 0, .slice none 0 0, .int .u16 0, .int .u32 0, .int .u8 0, .slice none 0 0, .slice none 0 0]
 rw [<- hq6] at Zf
 clear YN
 go_upto_region 3 with fail
 rw [<- hq6]
 clear hq6
 generalize World.alloc W1 _ = W2 at Zf ⊢
 have HS := VL Zf
 clear Zf
 obtain ⟨hcA, hfA, hlA⟩ := ZO.all (HS.out.at 0 rfl)
 have HNO := VL (show True from trivial)
 have HC := XT I _ _ g o c bs (4) (HB.out) (by rw [<- HN.out]; exact hc) (by rw [<- HN.out]; omega) (by rw [<- HN.out]; omega) HS.out
 rw [<- HN.out] at HC
 obtain ⟨x1, hx⟩ : ∃ z, z = Yl bs (4) 4 := ⟨_, rfl⟩
 have hr := Ym bs (4)
 rw [<- hx] at HC hr
 obtain ⟨x1a, x1b⟩ := hr
 have HC := VL HC
 have Hx1 := VL hx
 clear hx
 go_wp2_with fail
 go_at_call 56
 refine HC.out.mono ?_
 clear HC
 rintro e w9 ⟨rfl, hw⟩
 subst hw
 have Zv := (HS.out.set 1 (.int .u32 x1))
 go_upto_region 35 with fail
 generalize World.setCell W2 _ _ = W3 at Zv ⊢
 clear HS hcA hfA hlA
 have HS := VL Zv
 clear Zv
 obtain ⟨hcA, hfA, hlA⟩ := ZO.all (HS.out.at 0 rfl)
 have HC := XT I _ _ g o c bs (8) (HB.out) (by rw [<- HN.out]; exact hc) (by rw [<- HN.out]; omega) (by rw [<- HN.out]; omega) HS.out
 rw [<- HN.out] at HC
 obtain ⟨x2, hx⟩ : ∃ z, z = Yl bs (8) 4 := ⟨_, rfl⟩
 have hr := Ym bs (8)
 rw [<- hx] at HC hr
 obtain ⟨x2a, x2b⟩ := hr
 have HC := VL HC
 have Hx2 := VL hx
 clear hx
 go_wp2_with fail
 go_at_call 56
 refine HC.out.mono ?_
 clear HC
 rintro e w9 ⟨rfl, hw⟩
 subst hw
 have Zv := HS.out.set 2 (.int .u32 x2)
 go_upto_region 51 with fail
 generalize World.setCell W3 _ _ = W4 at Zv ⊢
 clear HS hcA hfA hlA
 have HS := VL Zv
 clear Zv
 obtain ⟨ct, hx⟩ : ∃ z, z = Yl bs (19) 1 := ⟨_, rfl⟩
 have HYc := VL (fun (M9 : List Zt) (w' : World) (hs : St I M9 w') => (show w'.cell? ⟨g, o + (19), none⟩ = some (.int .u8 ct) from by
  obtain ⟨g', o', e, ZK⟩ := HB.out.at (by rw [<- HN.out]; omega)
  injection e with e
  injection e with e1 e2
  subst e1 e2
  rw [hx, nmA_1 (by rw [<- HN.out]; omega)]
  exact ZK _ _ hs (19) (by rw [<- HN.out]; omega)))
 have hr2 := Wp bs (19) 1
 have h9 : ((256 ^ 1 : Nat) : Int) = 256 := (by decide)
 rw [<- hx, h9] at hr2
 have cta := hr2.1
 have ctb : ct <= 255 := by omega
 clear hr2 h9
 have Hct := VL hx
 clear hx
 have hc12 : ¬ c = 12 := by omega
 have hi19 : (19 : Int) < (n : Int) := by omega
 have hc14 : (14 : Int) <= (c : Int) := by omega
 have YV := VL (fun (M9 : List Zt) (w' : World) (hs : St I M9 w') => HYc.out M9 w' hs)
 refine YQ (S := fun w' => w'.cell? ⟨g, o + 19, none⟩ = some (.int .u8 ct)) (by kernel_rfl) (YV.out _ _ HS.out.drew) (fun ZL => ?_)
 have YM := HS.out.drew
 clear HS
 generalize World.drew _ = W5 at YM ZL ⊢
 refine wt 0 1 rfl (by kernel_rfl) (fun _ _ _ h => h) rfl ‹_› (by intro w h;go_simp;try with_reducible rfl) ?_
 try go_frame
 refine wt 1 2 rfl (by kernel_rfl) (fun _ _ _ h => h) rfl ‹_› (by intro w h;go_simp;try with_reducible rfl) ?_
 try go_frame
 refine wt 4 5 rfl (by kernel_rfl) (fun _ _ _ h => h) rfl ‹_› (by intro w h;go_simp;try with_reducible rfl) ?_
 try go_frame
 refine wt 7 8 rfl (by kernel_rfl) (fun _ _ _ h => h) rfl ‹_› (by intro w h;go_simp;try with_reducible rfl) ?_
 try go_frame
 refine wt 8 9 rfl (by kernel_rfl) (fun _ _ _ h => h) rfl ‹_› (by intro w h;go_simp;try with_reducible rfl) ?_
 try go_frame
 refine wt 9 17 rfl (by kernel_rfl) (fun _ _ _ h => h) rfl ‹_› (by intro w h;go_simp;try with_reducible rfl) ?_
 try go_frame
 refine wt 10 11 rfl (by kernel_rfl) (fun _ _ _ h => h) rfl ‹_› (by intro w h;go_simp;try with_reducible rfl) ?_
 try go_frame
 clear hc12 hi19 hc14
 have HSS2 := YV
 have HC := numAtC I _ _ g o c bs 12 2 HB.out (by rw [<- HN.out]; exact hc) (by decide) (by decide) (by rw [<- HN.out]; omega) YM
 obtain ⟨bb, hx⟩ : ∃ z, z = Yl bs 12 2 := ⟨_, rfl⟩
 have hr := nmA_2 bs 12
 rw [<- hx] at HC hr
 obtain ⟨bba, bbb⟩ := hr
 have HC := VL HC
 have Hbb := VL hx
 clear hx
 refine ZU (i := 2) (o := _) (by kernel_rfl) rfl (fun K hK => ?_)
 go_simp
 try clear ZL
 refine HC.out.mono ?_
 clear HC
 rintro e w9 ⟨rfl, hw⟩
 subst hw
 refine hK.out _ _ (YV.out _ _ YM) (fun ZL => ?_)
 clear hK K
 try go_frame
 have hwb : IntKind.u16.wrap bb = bb := by rw [Y9]; omega
 refine wt 3 13 rfl (by kernel_rfl) (fun _ _ _ h => h) rfl ‹_› (by intro w h;go_simp;try with_reducible rfl) ?_
 try go_frame
 clear hwb
 have HC := XT I _ _ g o c bs 16 HB.out (by rw [<- HN.out]; exact hc) (by rw [<- HN.out]; omega) (by rw [<- HN.out]; omega) YM
 rw [<- HN.out] at HC
 obtain ⟨rv, hx⟩ : ∃ z, z = Yl bs 16 4 := ⟨_, rfl⟩
 have hr := Ym bs 16
 rw [<- hx] at HC hr
 obtain ⟨rva, rvb⟩ := hr
 have HC := VL HC
 have Hrv := VL hx
 clear hx
 refine ZU (i := 5) (o := _) (by kernel_rfl) rfl (fun K hK => ?_)
 go_simp
 try clear ZL
 refine HC.out.mono ?_
 clear HC
 rintro e w9 ⟨rfl, hw⟩
 subst hw
 refine hK.out _ _ (YV.out _ _ YM) (fun ZL => ?_)
 clear hK K
 try go_frame
 refine wt 6 15 rfl (by kernel_rfl) (fun _ _ _ h => h) rfl ‹_› (by intro w h;go_simp;try with_reducible rfl) ?_
 try go_frame
 obtain ⟨hcq, hfq, hlq⟩ := ZO.all (YM.at 0 rfl)
 refine ZU (i := 11) (o := _) (by kernel_rfl) rfl (fun K hK => ?_)
 go_simp
 have Zo := YM.set 0 (.int .i64 6)
 try clear ZL
 refine hK.out _ _ (YV.out _ _ Zo) (fun ZL => ?_)
 clear hK K
 try go_frame
 clear YM hcq hfq hlq
 have YM := Zo
 clear Zo
 generalize World.setCell _ _ _ = W6 at YM ZL ⊢
 refine wt 12 13 rfl (by kernel_rfl) (fun _ _ _ h => h) rfl ‹_› (by intro w h;go_simp;try with_reducible rfl) ?_
 try go_frame
 obtain ⟨hcq, hfq, hlq⟩ := ZO.all (YM.at 0 rfl)
 refine ZU (i := 13) (o := _) (by kernel_rfl) rfl (fun K hK => ?_)
 go_simp
 have Zo := YM.set 11 (.int .u16 bb)
 try clear ZL
 refine hK.out _ _ (YV.out _ _ Zo) (fun ZL => ?_)
 clear hK K
 try go_frame
 clear YM hcq hfq hlq
 have YM := Zo
 clear Zo
 generalize World.setCell _ _ _ = W6 at YM ZL ⊢
 refine wt 14 15 rfl (by kernel_rfl) (fun _ _ _ h => h) rfl ‹_› (by intro w h;go_simp;try with_reducible rfl) ?_
 try go_frame
 obtain ⟨hcq, hfq, hlq⟩ := ZO.all (YM.at 0 rfl)
 refine ZU (i := 15) (o := _) (by kernel_rfl) rfl (fun K hK => ?_)
 go_simp
 have Zo := YM.set 12 (.int .u32 (rv / 256))
 try clear ZL
 refine hK.out _ _ (YV.out _ _ Zo) (fun ZL => ?_)
 clear hK K
 try go_frame
 clear YM hcq hfq hlq
 have YM := Zo
 clear Zo
 generalize World.setCell _ _ _ = W6 at YM ZL ⊢
 refine wt 16 17 rfl (by kernel_rfl) (fun _ _ _ h => h) rfl ‹_› (by intro w h;go_simp;try with_reducible rfl) ?_
 try go_frame
 obtain ⟨hcq, hfq, hlq⟩ := ZO.all (YM.at 0 rfl)
 refine Yi (i := 17) (o := _) (by kernel_rfl) rfl (by kernel_rfl) (by kernel_rfl) (fun K hK => ?_)
 go_simp
 have Zo := YM.set 13 (.int .u8 ct)
 try clear ZL
 refine hK.out _ _ ?_
 clear hK K
 try go_frame
 clear YM hcq hfq hlq
 have YM := Zo
 clear Zo
 generalize World.setCell _ _ _ = W6 at YM ⊢
 have HS := VL YM
 clear YM
 have hc14 : ¬ c = 14 := by omega
 have hc16 : (16 : Int) <= (c : Int) := by omega
 have HC := numAtC I _ _ g o c bs (14) 2 HB.out (by rw [<- HN.out]; exact hc) (by decide) (by decide) (by rw [<- HN.out]; omega) HS.out
 have hci : ¬ c = 14 := by omega
 obtain ⟨xq, hx⟩ : ∃ z, z = Yl bs (14) 2 := ⟨_, rfl⟩
 have hr := nmA_2 bs (14)
 rw [<- hx] at HC hr
 obtain ⟨xqa, xqb⟩ := hr
 have HC := VL HC
 have Hxq := VL hx
 clear hx
 go_wp2_with fail
 go_at_call 22
 refine HC.out.mono ?_
 clear HC hci
 rintro e w9 ⟨rfl, hw⟩
 subst hw
 obtain ⟨NN, rfl⟩ := Int.eq_ofNat_of_zero_le xqa
 clear hc14 hc16
 obtain ⟨m9, hm9⟩ : ∃ z, z = (NN + 6) / 7 := ⟨_, rfl⟩
 have hmi : ((NN : Int) + 6) / 7 = (m9 : Int) := by omega
 have HM9 := VL hm9
 have hmb : m9 <= 10000 := by omega
 clear hm9
 go_upto_region 55 with fail
 have HF := VL (show ∀ p, T p -> (⟨6, x1, x2, 0, 0, 0, 0, [], ⟨#[]⟩, [], [], bb, rv / 256, ct, p.ZF, []⟩ : Pk) = p /\ p.ZF.length = NN /\ p.ZF.any Xp = false /\ (1 <= NN /\ NN <= 255) /\ 20 + 2 * m9 <= n /\ (∀ j, j < m9 -> Yl bs (20 + 2 * j) 2 = WP p.ZF (7 * j)) /\ ∃ t, bs.drop (20 + 2 * m9) = p.ZF.flatMap XW ++ t from fun p hp => by
  obtain ⟨hg, hok, hbs⟩ := HT.out p hp
  have hkk := XF hg hbs HKB.out.1 HKB.out.2
  obtain ⟨k1, k8, _⟩ := Y5 hg hbs
  have h6 := ref_six hg hok hbs (by omega) Hxq.out HM9.out
  rw [<- Hx1.out, <- Hx2.out, <- Hbb.out, <- Hrv.out, <- Hct.out, <- HN.out] at h6
  exact h6)
 have Yu := HS.out.nil (e := 3) (size := 1)
 clear HS hmi
 have HS := VL Yu
 clear Yu
 go_loopw [15, 258] (fun fv iv wr => ∃ (i F : Nat) (L : List Int) (A : Option Addr) (cA : Nat), fv = .int .i64 F /\ iv = .int .i64 i /\ i <= NN /\ 20 + 2 * m9 <= F /\ F <= 20 + 2 * m9 + 2 * i /\ Hid (St I (row 3 1 (.slice A L.length cA) L.length (flat XC L) :: bk q6 56 #[.int .i64 6, .int .u32 x1, .int .u32 x2, .int .u64 0, .int .u32 0, .int .u32 0, .int .u32 0, .slice none 0 0, .string ⟨#[]⟩, .slice none 0 0, .slice none 0 0, .int .u16 bb, .int .u32 (rv / 256), .int .u8 ct, .slice A L.length cA, .slice none 0 0] :: bk q2 56 Z56 :: M) wr /\ L.length = i /\ ∀ p, T p -> F <= n /\ L = p.ZF.take i /\ ∃ t, bs.drop F = (p.ZF.drop i).flatMap XW ++ t)) (fun _ iv _ => NN - (intOf iv).toNat)
 case atStart =>
  refine ⟨0, 20 + 2 * m9, [], none, 0, ?_, rfl, by omega, by omega, by omega, VL ⟨HS.out, rfl, fun p hp => ⟨(HF.out p hp).2.2.2.2.1, rfl, (HF.out p hp).2.2.2.2.2.2⟩⟩⟩
  have e : (20 : Int) + (m9 : Int) * 2 = ((20 + 2 * m9 : Nat) : Int) := by omega
  first | (rw [<- e]; done) | (rw [<- e]; rfl) | simp [e]
 case round =>
  obtain ⟨i, F, L, A, cA, rfl, rfl, hi, hF1, hF2, hh⟩ := hrel
  clear HS
  obtain ⟨hs, hlen, ht⟩ := hh.out
  clear hh
  have HS := VL hs
  have YZ := VL (And.intro hlen ht)
  have WE := VL (show L.length <= 65535 by omega)
  clear hs hlen ht
  by_cases Z0 : i < NN
  ·skip
   have VK : (i : Int) < (NN : Int) := by omega
   rcases Nat.lt_or_ge n F with hFn | hFn
   ·have hFi : (n : Int) < (F : Int) := by omega
    have hcap := (Yh (show World.ownsRow _ 0 3 1 (.slice A L.length cA) L.length _ from HS.out.at 0 rfl)).2
    obtain ⟨J2, Zd, hs7, hcl⟩ := HS.out.ZR
    clear HS
    have HS := VL hs7
    have HCC := VL (And.intro hcap (And.intro Zd hcl))
    clear hs7 hcap Zd hcl
    go_upto_region 58 with fail
    have hb : ZO _ q6 56 _ := HS.out.at 0 rfl
    have hb2 : ZO _ q2 56 _ := HS.out.at 1 rfl
    have hone : (#[.int .i64 6, .int .u32 x1, .int .u32 x2, .int .u64 0, .int .u32 0, .int .u32 0, .int .u32 0, .slice none 0 0, .string ⟨#[]⟩, .slice none 0 0, .slice none 0 0, .int .u16 bb, .int .u32 (rv / 256), .int .u8 ct, .slice A L.length cA, .slice none 0 0] : Array Value).all (·.oneCell') = true := by kernel_rfl
    have HS6 := VL (HS.out.YS #[.int .i64 6, .int .u32 x1, .int .u32 x2, .int .u64 0, .int .u32 0, .int .u32 0, .int .u32 0, .slice none 0 0, .string ⟨#[]⟩, .slice none 0 0, .slice none 0 0, .int .u16 bb, .int .u32 (rv / 256), .int .u8 ct, .slice A L.length cA, .slice none 0 0])
    clear HS
    go_wp2_with (first | refine wpList_load_row rfl 56 (.tmp 6) rfl q6 rfl 56 _ (0, 0) _ hb hd rfl Zn ?_ | refine wpList_store_row rfl 56 (.tmp 2) (.tmp 269) rfl q2 #[.int .i64 6, .int .u32 x1, .int .u32 x2, .int .u64 0, .int .u32 0, .int .u32 0, .int .u32 0, .slice none 0 0, .string ⟨#[]⟩, .slice none 0 0, .slice none 0 0, .int .u16 bb, .int .u32 (rv / 256), .int .u8 ct, .slice A L.length cA, .slice none 0 0] rfl rfl 56 _ hb2 Zn rfl hone ?_)
    refine bodyPost_ret (Zp (p := 2) (u := 3) Try.results23 _ _ q2 56 _ (0, 0) _ rfl (HS6.out.at 1 rfl) hd rfl Zn) rfl ?_
    refine ⟨J2, ⟨6, x1, x2, 0, 0, 0, 0, [], ⟨#[]⟩, [], [], bb, rv / 256, ct, L, []⟩, ⟨YA, YA, YA, .slice A L.length cA, YA⟩, false, rfl, HCC.out.2.1, HS6.out.drop.drop, by obtain ⟨hcap, _, hcl⟩ := HCC.out; exact ⟨Y4.nil J2 _, Y4.nil J2 _, Y4.nil J2 _, ⟨A, cA, rfl, hcl, hcap⟩, Y4.nil J2 _⟩, X5 ⟨x1a, x1b⟩ ⟨x2a, x2b⟩ (by simp) (by simp) (by simp) (by simp) (by simp) (by simp) (by simp) ⟨bba, bbb⟩ ⟨by simp only []; omega, by simp only []; omega⟩ ⟨cta, ctb⟩ (by simp) (Nat.zero_le _) (Nat.zero_le _) (Nat.zero_le _) (by have := WE.out; simp only []; omega) (Nat.zero_le _) (Nat.zero_le _), fun p hp => ?_⟩
    exfalso
    have := (YZ.out.2 p hp).1
    omega
   have hFi : ¬ (n : Int) < (F : Int) := by omega
   rcases Nat.lt_or_ge 255 NN with hNb | hNb
   ·have hNi : (255 : Int) < (NN : Int) := by omega
    have hcap := (Yh (show World.ownsRow _ 0 3 1 (.slice A L.length cA) L.length _ from HS.out.at 0 rfl)).2
    obtain ⟨J2, Zd, hs7, hcl⟩ := HS.out.ZR
    clear HS
    have HS := VL hs7
    have HCC := VL (And.intro hcap (And.intro Zd hcl))
    clear hs7 hcap Zd hcl
    go_upto_region 58 with fail
    have hb : ZO _ q6 56 _ := HS.out.at 0 rfl
    have hb2 : ZO _ q2 56 _ := HS.out.at 1 rfl
    have hone : (#[.int .i64 6, .int .u32 x1, .int .u32 x2, .int .u64 0, .int .u32 0, .int .u32 0, .int .u32 0, .slice none 0 0, .string ⟨#[]⟩, .slice none 0 0, .slice none 0 0, .int .u16 bb, .int .u32 (rv / 256), .int .u8 ct, .slice A L.length cA, .slice none 0 0] : Array Value).all (·.oneCell') = true := by kernel_rfl
    have HS6 := VL (HS.out.YS #[.int .i64 6, .int .u32 x1, .int .u32 x2, .int .u64 0, .int .u32 0, .int .u32 0, .int .u32 0, .slice none 0 0, .string ⟨#[]⟩, .slice none 0 0, .slice none 0 0, .int .u16 bb, .int .u32 (rv / 256), .int .u8 ct, .slice A L.length cA, .slice none 0 0])
    clear HS
    go_wp2_with (first | refine wpList_load_row rfl 56 (.tmp 6) rfl q6 rfl 56 _ (0, 0) _ hb hd rfl Zn ?_ | refine wpList_store_row rfl 56 (.tmp 2) (.tmp 269) rfl q2 #[.int .i64 6, .int .u32 x1, .int .u32 x2, .int .u64 0, .int .u32 0, .int .u32 0, .int .u32 0, .slice none 0 0, .string ⟨#[]⟩, .slice none 0 0, .slice none 0 0, .int .u16 bb, .int .u32 (rv / 256), .int .u8 ct, .slice A L.length cA, .slice none 0 0] rfl rfl 56 _ hb2 Zn rfl hone ?_)
    refine bodyPost_ret (Zp (p := 2) (u := 3) Try.results23 _ _ q2 56 _ (0, 0) _ rfl (HS6.out.at 1 rfl) hd rfl Zn) rfl ?_
    refine ⟨J2, ⟨6, x1, x2, 0, 0, 0, 0, [], ⟨#[]⟩, [], [], bb, rv / 256, ct, L, []⟩, ⟨YA, YA, YA, .slice A L.length cA, YA⟩, false, rfl, HCC.out.2.1, HS6.out.drop.drop, by obtain ⟨hcap, _, hcl⟩ := HCC.out; exact ⟨Y4.nil J2 _, Y4.nil J2 _, Y4.nil J2 _, ⟨A, cA, rfl, hcl, hcap⟩, Y4.nil J2 _⟩, X5 ⟨x1a, x1b⟩ ⟨x2a, x2b⟩ (by simp) (by simp) (by simp) (by simp) (by simp) (by simp) (by simp) ⟨bba, bbb⟩ ⟨by simp only []; omega, by simp only []; omega⟩ ⟨cta, ctb⟩ (by simp) (Nat.zero_le _) (Nat.zero_le _) (Nat.zero_le _) (by have := WE.out; simp only []; omega) (Nat.zero_le _) (Nat.zero_le _), fun p hp => ?_⟩
    exfalso
    have := (HF.out p hp).2.2.2.1
    omega
   have hNi : ¬ (255 : Int) < (NN : Int) := by omega
   obtain ⟨j, hj⟩ : ∃ z, z = i / 7 := ⟨_, rfl⟩
   obtain ⟨r, hr⟩ : ∃ z, z = i % 7 := ⟨_, rfl⟩
   have HJR := VL (And.intro hj hr)
   obtain ⟨e, he⟩ : ∃ z, z = 12 - 2 * r := ⟨_, rfl⟩
   have hji : (i : Int) / 7 = (j : Int) := by omega
   have hri : (i : Int) % 7 = (r : Int) := by omega
   have hei : 12 - 2 * (r : Int) = (e : Int) := by omega
   have hj9 : 22 + 2 * j <= F := by have := HM9.out; omega
   have hjm : j < m9 := by have := HM9.out; omega
   have hjb : j <= 100 := by omega
   have hrb : r <= 6 := by omega
   have heb : e <= 12 := by omega
   have HE := VL he
   clear hj hr he
   have hj1 : 20 + (j : Int) * 2 = ((20 + 2 * j : Nat) : Int) := by omega
   have hj2 : 22 + (j : Int) * 2 = ((22 + 2 * j : Nat) : Int) := by omega
   have hcj : ¬ c = 20 + 2 * j := by omega
   have hcj2 : 22 + 2 * j <= c := by omega
   have hcj3 : ((22 + 2 * j : Nat) : Int) <= (c : Int) := by omega
   have hcj4 : 22 + 2 * j - (20 + 2 * j) = 2 := by omega
   have HC := numAtC I _ wr g o c bs (20 + 2 * j) 2 HB.out (by rw [<- HN.out]; exact hc) (by decide) (by decide) (by rw [<- HN.out]; omega) HS.out
   obtain ⟨wd, hx⟩ : ∃ z, z = Yl bs (20 + 2 * j) 2 := ⟨_, rfl⟩
   have hr := nmA_2 bs (20 + 2 * j)
   rw [<- hx] at HC hr
   obtain ⟨wda, wdb⟩ := hr
   have HC := VL HC
   have Hwd := VL hx
   clear hx
   go_wp2_with fail
   go_at_call 22
   refine HC.out.mono ?_
   clear HC
   rintro e9 w9 ⟨rfl, hw⟩
   subst hw
   clear hcj hcj2 hcj3 hcj4 hj1 hj2
   obtain ⟨hcA, hfA, hlA⟩ := ZO.all (HS.out.at 1 rfl)
   obtain ⟨mk, hmk⟩ : ∃ z, z = wd.toNat / 2 ^ e % 4 := ⟨_, rfl⟩
   have hnd : bits BinOp.and IntKind.i64 (wd / 2 ^ e) 3 = (mk : Int) := by
    obtain ⟨wn, rfl⟩ := Int.eq_ofNat_of_zero_le wda
    rw [show ((wn : Int) / 2 ^ e) = ((wn / 2 ^ e : Nat) : Int) by simp, hmk]
    exact and_3b _ (by have := Nat.div_le_self wn (2 ^ e); omega)
   have HMK := VL hmk
   have hmk4 : mk < 4 := by omega
   clear hmk
   go_upto_region 61 with fail
   have HMA := VL (show ∀ p, T p -> ∃ h : i < p.ZF.length, (YC (p.ZF[i]'h)).toNat = mk from fun p hp => by
    obtain ⟨_, hl, _, _, _, hw, _⟩ := HF.out p hp
    have hgi : i < p.ZF.length := by omega
    refine ⟨hgi, ?_⟩
    have h1 := mark_at hgi (wd := wd) (by rw [Hwd.out, hw j hjm, HJR.out.1])
    rw [HMK.out, <- h1, HE.out, HJR.out.2])
   clear hnd hji hri hei
   rcases Nat.eq_zero_or_pos mk with hz | hz
   ·subst hz
    have Yu := HS.out.Yw (P := Try.prog) (t := 48) (e := 3) (cs := #[.int .i64 65536]) (n := 1) (size := 1) rfl (by decide) Try.underlying48 (by simp [Value.oneCell'])
    have XE := HS.out.grow (.cells #[.int .i64 65536] 3)
    obtain ⟨i0, hi0, hz0, hz1, hz2⟩ := info_parts info3
    go_upto_region 62 with fail
    go_wp2_with (at_builtin; refine Zj _ rfl _ _ 48 48 rfl 0 3 i0 _ 1 8 Try.underlying48 hi0 hz0 hz1 hz2 rfl _ L.length (flat XC L) rfl XE.head _ 1 _ rfl Yu (by have := WE.out; unfold maxLen; omega) (by have := WE.out; omega) (Nat.zero_le _) ?_)
    intro v' w5 Z9 Zr hat
    have Zb : w5.ownsRow 0 3 1 v' (L.length + 1) (flat XC (L ++ [65536])) := by rw [Z7]; exact Z9
    obtain ⟨A10, c10, rfl⟩ := ZW Zb
    have Zo := XE.grown Zr Zb (by simpa using hat)
    have HS6 := VL (show St I (row 3 1 (.slice A10 (L.length + 1) c10) (L.length + 1) (flat XC (L ++ [65536])) :: bk q6 56 #[.int .i64 6, .int .u32 x1, .int .u32 x2, .int .u64 0, .int .u32 0, .int .u32 0, .int .u32 0, .slice none 0 0, .string ⟨#[]⟩, .slice none 0 0, .slice none 0 0, .int .u16 bb, .int .u32 (rv / 256), .int .u8 ct, .slice A10 (L.length + 1) c10, .slice none 0 0] :: bk q2 56 Z56 :: M) (w5.setCell ⟨q6, 14, none⟩ (.slice A10 (L.length + 1) c10)) from ((Zo.ZQ.set 14 (.slice A10 (L.length + 1) c10)).ZQ))
    clear HS
    obtain ⟨hcp, hfp, hlp⟩ := ZO.all (Zo.at 1 rfl)
    clear Zo Z9 Zb Zr hat Yu XE hcA hfA hlA
    go_wp2
    go_roundw
    case rel =>
     refine ⟨i + 1, F + 0, L ++ [65536], A10, c10, by go_num, by go_num, by omega, by omega, by omega, VL ⟨by rw [List.length_append]; exact HS6.out, by rw [List.length_append, YZ.out.1]; rfl, fun p hp => ?_⟩⟩
     obtain ⟨hFp, hL, t, hd9⟩ := YZ.out.2 p hp
     obtain ⟨hgi, hmk⟩ := HMA.out p hp
     have hno : Xp p.ZF[i] = false := by
      cases hb : Xp p.ZF[i] with
      | false => rfl
      | true =>
       have h3 := (HF.out p hp).2.2.1
       rw [List.any_eq_true.2 ⟨_, List.getElem_mem hgi, hb⟩] at h3
       cases h3
     have htk : p.ZF.take (i + 1) = p.ZF.take i ++ [p.ZF[i]] := List.take_succ_eq_append_getElem hgi
     rw [List.drop_eq_getElem_cons hgi, List.flatMap_cons, List.append_assoc] at hd9
     have hd8 := congrArg List.length hd9
     rw [List.length_drop] at hd8
     generalize p.ZF[i] = a at hmk hno htk hd9 hd8
     rw [htk, <- hL]
     have h3 : YC a = 0 := by
      have : 0 <= YC a := by unfold YC; split <;> (try split) <;> omega
      omega
     have h4 : a = 65536 := by
      unfold YC at h3
      split at h3
      ·assumption
      split at h3 <;> omega
     subst h4
     exact ⟨hFp, rfl, t, hd9⟩
    case measure => simp [intOf]; omega
   have hb0 : ((mk : Int) == 0) = false := by rw [beq_eq_false_iff_ne]; omega
   have HMB := VL (show ∀ p, T p -> mk <= 2 /\ F + mk <= n from fun p hp => by
    obtain ⟨hFp, hL, t, hd9⟩ := YZ.out.2 p hp
    obtain ⟨hgi, hmk⟩ := HMA.out p hp
    have hmo := Xg p.ZF[i]
    refine ⟨by omega, ?_⟩
    rw [List.drop_eq_getElem_cons hgi, List.flatMap_cons, List.append_assoc] at hd9
    have hd8 := congrArg List.length hd9
    rw [List.length_drop, List.length_append, <- HN.out] at hd8
    have hfl := farO_ln p.ZF[i]
    generalize p.ZF[i] = a at hmk hd9 hd8 hmo hfl
    omega)
   rcases Nat.lt_or_ge n (F + mk) with hgt | hgt
   ·have hgti : (n : Int) < (F : Int) + (mk : Int) := by omega
    have hcap := (Yh (show World.ownsRow _ 0 3 1 (.slice A L.length cA) L.length _ from HS.out.at 0 rfl)).2
    obtain ⟨J2, Zd, hs7, hcl⟩ := HS.out.ZR
    clear HS
    have HS := VL hs7
    have HCC := VL (And.intro hcap (And.intro Zd hcl))
    clear hs7 hcap Zd hcl
    go_upto_region 64 with fail
    have hb : ZO _ q6 56 _ := HS.out.at 0 rfl
    have hb2 : ZO _ q2 56 _ := HS.out.at 1 rfl
    have hone : (#[.int .i64 6, .int .u32 x1, .int .u32 x2, .int .u64 0, .int .u32 0, .int .u32 0, .int .u32 0, .slice none 0 0, .string ⟨#[]⟩, .slice none 0 0, .slice none 0 0, .int .u16 bb, .int .u32 (rv / 256), .int .u8 ct, .slice A L.length cA, .slice none 0 0] : Array Value).all (·.oneCell') = true := by kernel_rfl
    have HS6 := VL (HS.out.YS #[.int .i64 6, .int .u32 x1, .int .u32 x2, .int .u64 0, .int .u32 0, .int .u32 0, .int .u32 0, .slice none 0 0, .string ⟨#[]⟩, .slice none 0 0, .slice none 0 0, .int .u16 bb, .int .u32 (rv / 256), .int .u8 ct, .slice A L.length cA, .slice none 0 0])
    clear HS
    go_wp2_with (first | refine wpList_load_row rfl 56 (.tmp 6) rfl q6 rfl 56 _ (0, 0) _ hb hd rfl Zn ?_ | refine wpList_store_row rfl 56 (.tmp 2) (.tmp 321) rfl q2 #[.int .i64 6, .int .u32 x1, .int .u32 x2, .int .u64 0, .int .u32 0, .int .u32 0, .int .u32 0, .slice none 0 0, .string ⟨#[]⟩, .slice none 0 0, .slice none 0 0, .int .u16 bb, .int .u32 (rv / 256), .int .u8 ct, .slice A L.length cA, .slice none 0 0] rfl rfl 56 _ hb2 Zn rfl hone ?_)
    refine bodyPost_ret (Zp (p := 2) (u := 3) Try.results23 _ _ q2 56 _ (0, 0) _ rfl (HS6.out.at 1 rfl) hd rfl Zn) rfl ?_
    refine ⟨J2, ⟨6, x1, x2, 0, 0, 0, 0, [], ⟨#[]⟩, [], [], bb, rv / 256, ct, L, []⟩, ⟨YA, YA, YA, .slice A L.length cA, YA⟩, false, rfl, HCC.out.2.1, HS6.out.drop.drop, by obtain ⟨hcap, _, hcl⟩ := HCC.out; exact ⟨Y4.nil J2 _, Y4.nil J2 _, Y4.nil J2 _, ⟨A, cA, rfl, hcl, hcap⟩, Y4.nil J2 _⟩, X5 ⟨x1a, x1b⟩ ⟨x2a, x2b⟩ (by simp) (by simp) (by simp) (by simp) (by simp) (by simp) (by simp) ⟨bba, bbb⟩ ⟨by simp only []; omega, by simp only []; omega⟩ ⟨cta, ctb⟩ (by simp) (Nat.zero_le _) (Nat.zero_le _) (Nat.zero_le _) (by have := WE.out; simp only []; omega) (Nat.zero_le _) (Nat.zero_le _), fun p hp => ?_⟩
    exfalso
    have := (HMB.out p hp).2
    omega
   have hgti : ¬ (n : Int) < (F : Int) + (mk : Int) := by omega
   rcases Nat.lt_or_ge mk 3 with h3 | h3
   rotate_left
   ·have hb3 : ((mk : Int) == 3) = true := by rw [beq_iff_eq]; omega
    have hcap := (Yh (show World.ownsRow _ 0 3 1 (.slice A L.length cA) L.length _ from HS.out.at 0 rfl)).2
    obtain ⟨J2, Zd, hs7, hcl⟩ := HS.out.ZR
    clear HS
    have HS := VL hs7
    have HCC := VL (And.intro hcap (And.intro Zd hcl))
    clear hs7 hcap Zd hcl
    go_upto_region 64 with fail
    have hb : ZO _ q6 56 _ := HS.out.at 0 rfl
    have hb2 : ZO _ q2 56 _ := HS.out.at 1 rfl
    have hone : (#[.int .i64 6, .int .u32 x1, .int .u32 x2, .int .u64 0, .int .u32 0, .int .u32 0, .int .u32 0, .slice none 0 0, .string ⟨#[]⟩, .slice none 0 0, .slice none 0 0, .int .u16 bb, .int .u32 (rv / 256), .int .u8 ct, .slice A L.length cA, .slice none 0 0] : Array Value).all (·.oneCell') = true := by kernel_rfl
    have HS6 := VL (HS.out.YS #[.int .i64 6, .int .u32 x1, .int .u32 x2, .int .u64 0, .int .u32 0, .int .u32 0, .int .u32 0, .slice none 0 0, .string ⟨#[]⟩, .slice none 0 0, .slice none 0 0, .int .u16 bb, .int .u32 (rv / 256), .int .u8 ct, .slice A L.length cA, .slice none 0 0])
    clear HS
    go_wp2_with (first | refine wpList_load_row rfl 56 (.tmp 6) rfl q6 rfl 56 _ (0, 0) _ hb hd rfl Zn ?_ | refine wpList_store_row rfl 56 (.tmp 2) (.tmp 321) rfl q2 #[.int .i64 6, .int .u32 x1, .int .u32 x2, .int .u64 0, .int .u32 0, .int .u32 0, .int .u32 0, .slice none 0 0, .string ⟨#[]⟩, .slice none 0 0, .slice none 0 0, .int .u16 bb, .int .u32 (rv / 256), .int .u8 ct, .slice A L.length cA, .slice none 0 0] rfl rfl 56 _ hb2 Zn rfl hone ?_)
    refine bodyPost_ret (Zp (p := 2) (u := 3) Try.results23 _ _ q2 56 _ (0, 0) _ rfl (HS6.out.at 1 rfl) hd rfl Zn) rfl ?_
    refine ⟨J2, ⟨6, x1, x2, 0, 0, 0, 0, [], ⟨#[]⟩, [], [], bb, rv / 256, ct, L, []⟩, ⟨YA, YA, YA, .slice A L.length cA, YA⟩, false, rfl, HCC.out.2.1, HS6.out.drop.drop, by obtain ⟨hcap, _, hcl⟩ := HCC.out; exact ⟨Y4.nil J2 _, Y4.nil J2 _, Y4.nil J2 _, ⟨A, cA, rfl, hcl, hcap⟩, Y4.nil J2 _⟩, X5 ⟨x1a, x1b⟩ ⟨x2a, x2b⟩ (by simp) (by simp) (by simp) (by simp) (by simp) (by simp) (by simp) ⟨bba, bbb⟩ ⟨by simp only []; omega, by simp only []; omega⟩ ⟨cta, ctb⟩ (by simp) (Nat.zero_le _) (Nat.zero_le _) (Nat.zero_le _) (by have := WE.out; simp only []; omega) (Nat.zero_le _) (Nat.zero_le _), fun p hp => ?_⟩
    exfalso
    have := (HMB.out p hp).1
    omega
   have hb3 : ((mk : Int) == 3) = false := by rw [beq_eq_false_iff_ne]; omega
   rcases Nat.lt_or_ge 1 mk with hm2 | hm2
   rotate_left
   ·obtain rfl : mk = 1 := by omega
    have hFl : (F : Int) < (n : Int) := by omega
    obtain ⟨y, hx⟩ : ∃ z, z = Yl bs (F) 1 := ⟨_, rfl⟩
    have HYf := VL (fun (M9 : List Zt) (w' : World) (hs : St I M9 w') => (show w'.cell? ⟨g, o + (F), none⟩ = some (.int .u8 y) from by
     obtain ⟨g', o', e, ZK⟩ := HB.out.at (by rw [<- HN.out]; omega)
     injection e with e
     injection e with e1 e2
     subst e1 e2
     rw [hx, nmA_1 (by rw [<- HN.out]; omega)]
     exact ZK _ _ hs (F) (by rw [<- HN.out]; omega)))
    have hr2 := Wp bs (F) 1
    have h9 : ((256 ^ 1 : Nat) : Int) = 256 := (by decide)
    rw [<- hx, h9] at hr2
    have ya := hr2.1
    have yb : y <= 255 := by omega
    clear hr2 h9
    have Hy := VL hx
    clear hx
    have hwy : IntKind.i64.wrap y = y := wrap_i64 (by omega) (by omega)
    go_upto_region 66 with fail
    clear hcA hfA hlA
    have YV := VL (fun (M9 : List Zt) (w' : World) (hm : bk q6 56 #[.int .i64 6, .int .u32 x1, .int .u32 x2, .int .u64 0, .int .u32 0, .int .u32 0, .int .u32 0, .slice none 0 0, .string ⟨#[]⟩, .slice none 0 0, .slice none 0 0, .int .u16 bb, .int .u32 (rv / 256), .int .u8 ct, .slice A L.length cA, .slice none 0 0] ∈ M9) (hs : St I M9 w') => (show w'.cell? ⟨q6, 14, none⟩ = some (.slice A L.length cA) /\ w'.cell? ⟨g, o + F, none⟩ = some (.int .u8 y) from ⟨(ZO.all (hs.res _ hm)).1 14, HYf.out M9 w' hs⟩))
    refine YQ (S := fun w' => w'.cell? ⟨q6, 14, none⟩ = some (.slice A L.length cA) /\ w'.cell? ⟨g, o + F, none⟩ = some (.int .u8 y)) (by kernel_rfl) (YV.out _ _ (by simp) HS.out.drew) (fun ZL => ?_)
    have YM := HS.out.drew
    clear HS
    generalize World.drew _ = W5 at YM ZL ⊢
    refine wt 0 1 rfl (by kernel_rfl) (fun _ _ _ h => h) rfl ‹_› (by intro w h;go_simp;try with_reducible rfl) ?_
    try go_frame
    refine wt 1 8 rfl (by kernel_rfl) (fun _ _ _ h => h) rfl ‹_› (by intro w h;go_simp;try with_reducible rfl) ?_
    try go_frame
    refine wt 2 4 rfl (by kernel_rfl) (fun _ _ _ h => h) rfl ‹_› (by intro w h;go_simp;try with_reducible rfl) ?_
    try go_frame
    refine wt 3 4 rfl (by kernel_rfl) (fun _ _ _ h => h) rfl ‹_› (by intro w h;go_simp;try with_reducible rfl) ?_
    try go_frame
    refine wt 4 5 rfl (by kernel_rfl) (fun _ _ _ h => h) rfl ‹_› (by intro w h;go_simp;try with_reducible rfl) ?_
    try go_frame
    refine wt 5 6 rfl (by kernel_rfl) (fun _ _ _ h => h) rfl ‹_› (by intro w h;go_simp;try with_reducible rfl) ?_
    try go_frame
    refine wt 6 7 rfl (by kernel_rfl) (fun _ _ _ h => h) rfl ‹_› (by intro w h;go_simp;try with_reducible rfl) ?_
    try go_frame
    clear hwy
    refine ZU (i := 7) (o := _) (by kernel_rfl) rfl (fun K hK => ?_)
    go_simp
    have Yu := YM.Yw (P := Try.prog) (t := 48) (e := 3) (cs := #[.int .i64 y]) (n := 1) (size := 1) rfl (by decide) Try.underlying48 (by simp [Value.oneCell'])
    have XE := YM.grow (.cells #[.int .i64 y] 3)
    try clear ZL
    refine hK.out _ _ (YV.out _ _ (by simp) XE) (fun ZL => ?_)
    clear hK K
    try go_frame
    obtain ⟨i0, hi0, hz0, hz1, hz2⟩ := info_parts info3
    refine ZU (i := 8) (o := _) (by kernel_rfl) rfl (fun K hK => ?_)
    refine YU _ (by rfl) _ _ 48 48 (by rfl) 0 3 i0 (.int .i64 0) 1 8 Try.underlying48 hi0 hz0 hz1 hz2 rfl _ L.length (flat XC L) (by rfl) XE.head _ 1 _ (by rfl) Yu (by have := WE.out; unfold maxLen; omega) (by have := WE.out; omega) (Nat.zero_le _) ?_
    intro v' w5 Z9 Zr hat
    have Zb : w5.ownsRow 0 3 1 v' (L.length + 1) (flat XC (L ++ [y])) := by rw [Z7]; exact Z9
    obtain ⟨A10, c10, rfl⟩ := ZW Zb
    have Zo := XE.grown Zr Zb (by simpa using hat)
    try clear ZL
    refine hK.out _ _ (YV.out _ _ (by simp) Zo) (fun ZL => ?_)
    clear hK K
    try go_frame
    refine wt 9 10 rfl (by kernel_rfl) (fun _ _ _ h => h) rfl ‹_› (by intro w h;go_simp;try with_reducible rfl) ?_
    try go_frame
    have HS6 := VL (show St I (row 3 1 (.slice A10 (L.length + 1) c10) (L.length + 1) (flat XC (L ++ [y])) :: bk q6 56 #[.int .i64 6, .int .u32 x1, .int .u32 x2, .int .u64 0, .int .u32 0, .int .u32 0, .int .u32 0, .slice none 0 0, .string ⟨#[]⟩, .slice none 0 0, .slice none 0 0, .int .u16 bb, .int .u32 (rv / 256), .int .u8 ct, .slice A10 (L.length + 1) c10, .slice none 0 0] :: bk q2 56 Z56 :: M) (w5.setCell ⟨q6, 14, none⟩ (.slice A10 (L.length + 1) c10)) from ((Zo.ZQ.set 14 (.slice A10 (L.length + 1) c10)).ZQ))
    obtain ⟨hp, fp, lp⟩ := ZO.all (Zo.at 1 rfl)
    refine Yi (i := 10) (o := _) (by kernel_rfl) rfl (by kernel_rfl) (by kernel_rfl) (fun K hK => ?_)
    go_simp
    try clear ZL
    refine hK.out _ _ ?_
    clear hK K
    try go_frame
    clear Zo Z9 Zb Zr hat Yu XE YM hp fp lp
    go_wp2
    go_roundw
    case rel =>
     refine ⟨i + 1, F + 1, L ++ [y], A10, c10, by go_num, by go_num, by omega, by omega, by omega, VL ⟨by rw [List.length_append]; exact HS6.out, by rw [List.length_append, YZ.out.1]; rfl, fun p hp => ?_⟩⟩
     obtain ⟨hFp, hL, t, hd9⟩ := YZ.out.2 p hp
     obtain ⟨hgi, hmk⟩ := HMA.out p hp
     have hno : Xp p.ZF[i] = false := by
      cases hb : Xp p.ZF[i] with
      | false => rfl
      | true =>
       have h3 := (HF.out p hp).2.2.1
       rw [List.any_eq_true.2 ⟨_, List.getElem_mem hgi, hb⟩] at h3
       cases h3
     have htk : p.ZF.take (i + 1) = p.ZF.take i ++ [p.ZF[i]] := List.take_succ_eq_append_getElem hgi
     rw [List.drop_eq_getElem_cons hgi, List.flatMap_cons, List.append_assoc] at hd9
     have hd8 := congrArg List.length hd9
     rw [List.length_drop] at hd8
     generalize p.ZF[i] = a at hmk hno htk hd9 hd8
     rw [htk, <- hL]
     have hmo := Xg a
     have h3 : YC a = 1 := by omega
     have h4 : 0 <= a /\ a <= 255 := by
      unfold YC at h3
      split at h3
      ·omega
      split at h3
      ·assumption
      omega
     unfold XW at hd9
     rw [if_pos h3, show a % 256 = a by omega] at hd9
     obtain ⟨a1, hr6⟩ := Wd (rdA1 (bs := bs) (i := F) (by rw [<- HN.out]; omega)) h4 (congrArg (fun z => (z, false)) hd9)
     refine ⟨by omega, ?_, t, congrArg Prod.fst hr6⟩
     rw [Hy.out, a1]
    case measure => simp [intOf]; omega
   obtain rfl : mk = 2 := by omega
   have hw2 : IntKind.i64.wrap ((F : Int) + 2) = (F : Int) + 2 := wrap_i64 (by omega) (by omega)
   have hcF : ¬ c = F := by omega
   have ht2 : ((F : Int) + 2).toNat = F + 2 := by omega
   have hp2 : 0 <= (F : Int) + 2 := by omega
   have hu2 : (F : Int) <= (F : Int) + 2 := by omega
   have hv2 : (F : Int) + 2 <= (c : Int) := by omega
   have hm2' : F + 2 - F = 2 := by omega
   go_upto_region 60 with fail
   clear hcA hfA hlA
   have YV := VL (fun (M9 : List Zt) (w' : World) (hm : bk q6 56 #[.int .i64 6, .int .u32 x1, .int .u32 x2, .int .u64 0, .int .u32 0, .int .u32 0, .int .u32 0, .slice none 0 0, .string ⟨#[]⟩, .slice none 0 0, .slice none 0 0, .int .u16 bb, .int .u32 (rv / 256), .int .u8 ct, .slice A L.length cA, .slice none 0 0] ∈ M9) (hs : St I M9 w') => (show w'.cell? ⟨q6, 14, none⟩ = some (.slice A L.length cA) from (ZO.all (hs.res _ hm)).1 14))
   refine YQ (S := fun w' => w'.cell? ⟨q6, 14, none⟩ = some (.slice A L.length cA)) (by kernel_rfl) (YV.out _ _ (by simp) HS.out.drew) (fun ZL => ?_)
   have YM := HS.out.drew
   clear HS
   generalize World.drew _ = W5 at YM ZL ⊢
   refine wt 0 1 rfl (by kernel_rfl) (fun _ _ _ h => h) rfl ‹_› (by intro w h;go_simp;try with_reducible rfl) ?_
   try go_frame
   refine wt 1 11 rfl (by kernel_rfl) (fun _ _ _ h => h) rfl ‹_› (by intro w h;go_simp;try with_reducible rfl) ?_
   try go_frame
   refine wt 2 6 rfl (by kernel_rfl) (fun _ _ _ h => h) rfl ‹_› (by intro w h;go_simp;try with_reducible rfl) ?_
   try go_frame
   refine wt 3 6 rfl (by kernel_rfl) (fun _ _ _ h => h) rfl ‹_› (by intro w h;go_simp;try with_reducible rfl) ?_
   try go_frame
   refine wt 4 5 rfl (by kernel_rfl) (fun _ _ _ h => h) rfl ‹_› (by intro w h;go_simp;try with_reducible rfl) ?_
   try go_frame
   refine wt 5 6 rfl (by kernel_rfl) (fun _ _ _ h => h) rfl ‹_› (by intro w h;go_simp;try with_reducible rfl) ?_
   try go_frame
   refine wt 6 7 rfl (by kernel_rfl) (fun _ _ _ h => h) rfl ‹_› (by intro w h;go_simp;try with_reducible rfl) ?_
   try go_frame
   clear hw2 hcF ht2 hp2 hu2 hv2 hm2'
   have HC := numAtC I _ _ g o c bs (F) 2 HB.out (by rw [<- HN.out]; exact hc) (by decide) (by decide) (by rw [<- HN.out]; omega) YM
   obtain ⟨y, hx⟩ : ∃ z, z = Yl bs (F) 2 := ⟨_, rfl⟩
   have hr := nmA_2 bs (F)
   rw [<- hx] at HC hr
   obtain ⟨ya, yb⟩ := hr
   have HC := VL HC
   have Hy := VL hx
   clear hx
   refine ZU (i := 7) (o := _) (by kernel_rfl) rfl (fun K hK => ?_)
   go_simp
   try clear ZL
   refine HC.out.mono ?_
   clear HC
   rintro e w9 ⟨rfl, hw⟩
   subst hw
   refine hK.out _ _ (YV.out _ _ (by simp) YM) (fun ZL => ?_)
   clear hK K
   try go_frame
   obtain ⟨z, hz⟩ : ∃ z, IntKind.i16.wrap y = z := ⟨_, rfl⟩
   have hzr := i16_rng y
   rw [hz] at hzr
   obtain ⟨hz1', hz2'⟩ := hzr
   have HZ := VL hz
   have hwy : IntKind.i64.wrap z = z := wrap_i64 (by omega) (by omega)
   refine wt 8 9 rfl (by kernel_rfl) (fun _ _ _ h => h) rfl ‹_› (by intro w h;go_simp;try with_reducible rfl) ?_
   try go_frame
   refine wt 9 10 rfl (by kernel_rfl) (fun _ _ _ h => h) rfl ‹_› (by intro w h;go_simp;try with_reducible rfl) ?_
   try go_frame
   clear hwy hz
   refine ZU (i := 10) (o := _) (by kernel_rfl) rfl (fun K hK => ?_)
   go_simp
   have Yu := YM.Yw (P := Try.prog) (t := 48) (e := 3) (cs := #[.int .i64 z]) (n := 1) (size := 1) rfl (by decide) Try.underlying48 (by simp [Value.oneCell'])
   have XE := YM.grow (.cells #[.int .i64 z] 3)
   try clear ZL
   refine hK.out _ _ (YV.out _ _ (by simp) XE) (fun ZL => ?_)
   clear hK K
   try go_frame
   obtain ⟨i0, hi0, hz0, hz1, hz2⟩ := info_parts info3
   refine ZU (i := 11) (o := _) (by kernel_rfl) rfl (fun K hK => ?_)
   refine YU _ (by rfl) _ _ 48 48 (by rfl) 0 3 i0 (.int .i64 0) 1 8 Try.underlying48 hi0 hz0 hz1 hz2 rfl _ L.length (flat XC L) (by rfl) XE.head _ 1 _ (by rfl) Yu (by have := WE.out; unfold maxLen; omega) (by have := WE.out; omega) (Nat.zero_le _) ?_
   intro v' w5 Z9 Zr hat
   have Zb : w5.ownsRow 0 3 1 v' (L.length + 1) (flat XC (L ++ [z])) := by rw [Z7]; exact Z9
   obtain ⟨A10, c10, rfl⟩ := ZW Zb
   have Zo := XE.grown Zr Zb (by simpa using hat)
   try clear ZL
   refine hK.out _ _ (YV.out _ _ (by simp) Zo) (fun ZL => ?_)
   clear hK K
   try go_frame
   refine wt 12 13 rfl (by kernel_rfl) (fun _ _ _ h => h) rfl ‹_› (by intro w h;go_simp;try with_reducible rfl) ?_
   try go_frame
   have HS6 := VL (show St I (row 3 1 (.slice A10 (L.length + 1) c10) (L.length + 1) (flat XC (L ++ [z])) :: bk q6 56 #[.int .i64 6, .int .u32 x1, .int .u32 x2, .int .u64 0, .int .u32 0, .int .u32 0, .int .u32 0, .slice none 0 0, .string ⟨#[]⟩, .slice none 0 0, .slice none 0 0, .int .u16 bb, .int .u32 (rv / 256), .int .u8 ct, .slice A10 (L.length + 1) c10, .slice none 0 0] :: bk q2 56 Z56 :: M) (w5.setCell ⟨q6, 14, none⟩ (.slice A10 (L.length + 1) c10)) from ((Zo.ZQ.set 14 (.slice A10 (L.length + 1) c10)).ZQ))
   obtain ⟨hp, fp, lp⟩ := ZO.all (Zo.at 1 rfl)
   refine Yi (i := 13) (o := _) (by kernel_rfl) rfl (by kernel_rfl) (by kernel_rfl) (fun K hK => ?_)
   go_simp
   try clear ZL
   refine hK.out _ _ ?_
   clear hK K
   try go_frame
   clear Zo Z9 Zb Zr hat Yu XE YM hp fp lp
   go_wp2
   go_roundw
   case rel =>
    refine ⟨i + 1, F + 2, L ++ [z], A10, c10, by go_num, by go_num, by omega, by omega, by omega, VL ⟨by rw [List.length_append]; exact HS6.out, by rw [List.length_append, YZ.out.1]; rfl, fun p hp => ?_⟩⟩
    obtain ⟨hFp, hL, t, hd9⟩ := YZ.out.2 p hp
    obtain ⟨hgi, hmk⟩ := HMA.out p hp
    have hno : Xp p.ZF[i] = false := by
     cases hb : Xp p.ZF[i] with
     | false => rfl
     | true =>
      have h3 := (HF.out p hp).2.2.1
      rw [List.any_eq_true.2 ⟨_, List.getElem_mem hgi, hb⟩] at h3
      cases h3
    have htk : p.ZF.take (i + 1) = p.ZF.take i ++ [p.ZF[i]] := List.take_succ_eq_append_getElem hgi
    rw [List.drop_eq_getElem_cons hgi, List.flatMap_cons, List.append_assoc] at hd9
    have hd8 := congrArg List.length hd9
    rw [List.length_drop] at hd8
    generalize p.ZF[i] = a at hmk hno htk hd9 hd8
    rw [htk, <- hL]
    have hmo := Xg a
    have h3 : YC a = 2 := by omega
    have h5 : ¬ a = 65536 := by intro h; subst h; unfold YC at h3; simp at h3
    have h4 : -32768 <= a /\ a <= 32767 := bad_no hno h5
    unfold XW at hd9
    rw [if_neg (by omega), if_pos h3] at hd9
    obtain ⟨a1, hr6⟩ := WN (rdA2 (bs := bs) (i := F) (by rw [<- HN.out]; omega)) (by omega) (congrArg (fun z => (z, false)) hd9)
    refine ⟨by omega, ?_, t, congrArg Prod.fst hr6⟩
    rw [<- HZ.out, Hy.out, a1, i16_back h4]
   case measure => simp [intOf]; omega
  obtain rfl : i = NN := by omega
  have VK : ¬ (i : Int) < (i : Int) := by omega
  have hcap := (Yh (show World.ownsRow _ 0 3 1 (.slice A L.length cA) L.length _ from HS.out.at 0 rfl)).2
  obtain ⟨J2, Zd, hs7, hcl⟩ := HS.out.ZR
  clear HS
  have HS := VL hs7
  have HCC := VL (And.intro hcap (And.intro Zd hcl))
  clear hs7 hcap Zd hcl
  go_upto_region 69 with fail
  have hb : ZO _ q6 56 _ := HS.out.at 0 rfl
  have hb2 : ZO _ q2 56 _ := HS.out.at 1 rfl
  have hone : (#[.int .i64 6, .int .u32 x1, .int .u32 x2, .int .u64 0, .int .u32 0, .int .u32 0, .int .u32 0, .slice none 0 0, .string ⟨#[]⟩, .slice none 0 0, .slice none 0 0, .int .u16 bb, .int .u32 (rv / 256), .int .u8 ct, .slice A L.length cA, .slice none 0 0] : Array Value).all (·.oneCell') = true := by kernel_rfl
  have HS6 := VL (HS.out.YS #[.int .i64 6, .int .u32 x1, .int .u32 x2, .int .u64 0, .int .u32 0, .int .u32 0, .int .u32 0, .slice none 0 0, .string ⟨#[]⟩, .slice none 0 0, .slice none 0 0, .int .u16 bb, .int .u32 (rv / 256), .int .u8 ct, .slice A L.length cA, .slice none 0 0])
  clear HS
  go_wp2_with (first | refine wpList_load_row rfl 56 (.tmp 6) rfl q6 rfl 56 _ (0, 0) _ hb hd rfl Zn ?_ | refine wpList_store_row rfl 56 (.tmp 2) (.tmp 339) rfl q2 #[.int .i64 6, .int .u32 x1, .int .u32 x2, .int .u64 0, .int .u32 0, .int .u32 0, .int .u32 0, .slice none 0 0, .string ⟨#[]⟩, .slice none 0 0, .slice none 0 0, .int .u16 bb, .int .u32 (rv / 256), .int .u8 ct, .slice A L.length cA, .slice none 0 0] rfl rfl 56 _ hb2 Zn rfl hone ?_)
  refine bodyPost_ret (Zp (p := 2) (u := 3) Try.results23 _ _ q2 56 _ (0, 0) _ rfl (HS6.out.at 1 rfl) hd rfl Zn) rfl ?_
  refine ⟨J2, ⟨6, x1, x2, 0, 0, 0, 0, [], ⟨#[]⟩, [], [], bb, rv / 256, ct, L, []⟩, ⟨YA, YA, YA, .slice A L.length cA, YA⟩, true, rfl, HCC.out.2.1, HS6.out.drop.drop, by obtain ⟨hcap, _, hcl⟩ := HCC.out; exact ⟨Y4.nil J2 _, Y4.nil J2 _, Y4.nil J2 _, ⟨A, cA, rfl, hcl, hcap⟩, Y4.nil J2 _⟩, X5 ⟨x1a, x1b⟩ ⟨x2a, x2b⟩ (by simp) (by simp) (by simp) (by simp) (by simp) (by simp) (by simp) ⟨bba, bbb⟩ ⟨by simp only []; omega, by simp only []; omega⟩ ⟨cta, ctb⟩ (by simp) (Nat.zero_le _) (Nat.zero_le _) (Nat.zero_le _) (by have := WE.out; simp only []; omega) (Nat.zero_le _) (Nat.zero_le _), fun p hp => ?_⟩
  refine ⟨rfl, ?_⟩
  have h5 := (HF.out p hp).1
  have h6 := (YZ.out.2 p hp).2.1
  rw [List.take_of_length_le (by have := (HF.out p hp).2.1; omega)] at h6
  rw [<- h6] at h5
  exact h5
end Go.Proofs.Ytddopbbmgpnjjaa
