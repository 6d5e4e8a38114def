/- part. -/
import Derived.Test.YtddopbbmgpnjjaaZT21
namespace Go.Proofs.Ytddopbbmgpnjjaa
set_option linter.unusedSimpArgs false
open Go.RowKit
set_option maxRecDepth 100000 in
set_option maxHeartbeats 20000000 in
theorem ref3 (I : Zh) (M : List Zt) (w : World) (g o c : Nat) (bs : List UInt8) (T : Pk -> Prop) (hB : Zq I (some ⟨g, o, none⟩) bs) (hc : bs.length <= c) (h4 : 4 <= bs.length) (hm : bs.length <= 262144) (hT : ∀ p, T p -> Good p /\ Y6 p /\ bs = ZV p) (lw : Int) (hkb : Yl bs 1 1 = 202) (hlw : Yl bs 0 1 % 32 = lw) (h8 : 12 <= bs.length) (ZX : St I M w) :
  Calls Try.prog 23 #[.slice (some ⟨g, o, none⟩) bs.length c] w (WF I M T) := by
 obtain ⟨q2, y0, n, fs, hq2, HT, HB, ZY, hy0, hy1, hand, hlr0, hlr1, hkr0, hkr1, HKB, hn, hd⟩ := Xa hB hc h4 hT hkb hlw ZX
 have HN := VL hn
 rw [<- hn] at hc h4 hm ⊢
 rw [<- hn] at h8
 clear ZX hT hB hkb hlw hn
 go_enter Try.func23, Try.ntmps23
 go_upto_region 1 with fail
 rw [<- hq2]
 clear hq2
 generalize World.alloc w _ = W at ZY hy0 hy1 ⊢
 go_quiet (fail)
 rename_i nq
 have YN := ZY.drewN nq
 clear ZY hy0 hy1 hand
 generalize W.drewN nq = W1 at YN ⊢
 obtain ⟨q6, hq6⟩ : ∃ q, q = W1.heap.size := ⟨_, rfl⟩
 have Zf := YN.alloc 56 #[.int .i64 0, .int .u32 0, .int .u32 0, .int .u64 0, .int .u32 0, .int .u32 0, .int .u32 0, .slice none 0 0, .string ⟨#[]⟩, .slice none 0 0, .slice none 0 0, .int .u16 0, .int .u32 0, .int .u8 0, .slice none 0 0, .slice none 0 0]
 rw [<- hq6] at Zf
 clear YN
 go_upto_region 3 with fail
 rw [<- hq6]
 clear hq6
 generalize World.alloc W1 _ = W2 at Zf ⊢
 have HS := VL Zf
 clear Zf
 obtain ⟨hcA, hfA, hlA⟩ := ZO.all (HS.out.at 0 rfl)
 have HNO := VL (show True from trivial)
 have HC := XT I _ _ g o c bs (4) (HB.out) (by rw [<- HN.out]; exact hc) (by rw [<- HN.out]; omega) (by rw [<- HN.out]; omega) HS.out
 rw [<- HN.out] at HC
 obtain ⟨x1, hx⟩ : ∃ z, z = Yl bs (4) 4 := ⟨_, rfl⟩
 have hr := Ym bs (4)
 rw [<- hx] at HC hr
 obtain ⟨x1a, x1b⟩ := hr
 have HC := VL HC
 have Hx1 := VL hx
 clear hx
 go_wp2_with fail
 go_at_call 56
 refine HC.out.mono ?_
 clear HC
 rintro e w9 ⟨rfl, hw⟩
 subst hw
 have Zv := (HS.out.set 1 (.int .u32 x1))
 go_upto_region 14 with fail
 generalize World.setCell W2 _ _ = W3 at Zv ⊢
 clear HS hcA hfA hlA
 have HS := VL Zv
 clear Zv
 obtain ⟨hcA, hfA, hlA⟩ := ZO.all (HS.out.at 0 rfl)
 have Zv := HS.out.set 0 (.int .i64 3)
 go_upto_region 15 with fail
 generalize World.setCell W3 _ _ = W4 at Zv ⊢
 clear HS hcA hfA hlA
 have HS := VL Zv
 clear Zv
 obtain ⟨Y, hY⟩ : ∃ z, z = (bs[9]'(by rw [<- HN.out]; omega)).toNat := ⟨_, rfl⟩
 have hYb : Y < 256 := by rw [hY]; exact UInt8.toNat_lt _
 have hyc : W4.cell? ⟨g, o + 9, none⟩ = some (.int .u8 (Y : Int)) := by
  obtain ⟨g', o', e, ZK⟩ := HB.out.at (by rw [<- HN.out]; omega)
  injection e with e
  injection e with e1 e2
  subst e1 e2
  rw [hY]
  exact ZK _ _ HS.out 9 (by rw [<- HN.out]; omega)
 have HY := VL (show Yl bs 9 1 = (Y : Int) by rw [nmA_1 (by rw [<- HN.out]; omega), hY])
 have hYi : (Y : Int) <= 255 := by omega
 clear hY hYb
 have HF := VL (show ∀ p, T p -> Y = p.name.size /\ (⟨3, x1, 0, 0, 0, 0, 0, [], ⟨((bs.drop 10).take Y).toArray⟩, [], [], 0, 0, 0, [], []⟩ : Pk) = p /\ 10 + Y <= n from fun p hp => by
  obtain ⟨hg, hok, hbs⟩ := HT.out p hp
  obtain ⟨k1, k8, hr⟩ := Y5 hg hbs
  have hkk := XF hg hbs HKB.out.1 HKB.out.2
  have h7 : p.kind = 3 := by omega
  obtain ⟨h1, t, h2⟩ := shape3 hg h7
  have hsz : 1 <= p.name.size /\ p.name.size <= 64 := by
   have := hg.1
   unfold YF at this
   omega
  rw [h2] at hr
  obtain ⟨a1, hr⟩ := YY (Xn (by rw [<- HN.out]; omega)) hok.ZA hr
  obtain ⟨a2, hr⟩ := Wd (rdA1 (by rw [<- HN.out]; omega)) (by decide) hr
  obtain ⟨a3, hr⟩ := Wd (rdA1 (by rw [<- HN.out]; omega)) (by omega) hr
  have hn : Y = p.name.size := by
   have := HY.out
   have e : Yl bs 9 1 = Yl bs (4 + 4 + 1) 1 := rfl
   omega
  have hr2 : bs.drop 10 = p.name.data.toList ++ t := congrArg Prod.fst hr
  have hz : p.name.data.toList.length = p.name.size := rfl
  have hl := congrArg List.length hr2
  rw [List.length_drop, List.length_append] at hl
  have hnm : (⟨((bs.drop 10).take Y).toArray⟩ : ByteArray) = p.name := by
   rw [hr2, hn, <- hz, List.take_left]
  refine ⟨hn, ?_, by have := HN.out; omega⟩
  rw [Hx1.out, hnm, a1]
  exact h1.symm)
 rcases Nat.lt_or_ge n (10 + Y) with Z0 | hge
 ·have VK : (n : Int) < 10 + (Y : Int) := by omega
  go_upto_region 17 with fail
  clear hyc
  have hb : ZO W4 q6 56 _ := HS.out.at 0 rfl
  have hb2 : ZO W4 q2 56 _ := HS.out.at 1 rfl
  have hone : (#[.int .i64 3, .int .u32 x1, .int .u32 0, .int .u64 0, .int .u32 0, .int .u32 0, .int .u32 0, .slice none 0 0, .string ⟨#[]⟩, .slice none 0 0, .slice none 0 0, .int .u16 0, .int .u32 0, .int .u8 0, .slice none 0 0, .slice none 0 0] : Array Value).all (·.oneCell') = true := by kernel_rfl
  have HS6 := VL (HS.out.YS #[.int .i64 3, .int .u32 x1, .int .u32 0, .int .u64 0, .int .u32 0, .int .u32 0, .int .u32 0, .slice none 0 0, .string ⟨#[]⟩, .slice none 0 0, .slice none 0 0, .int .u16 0, .int .u32 0, .int .u8 0, .slice none 0 0, .slice none 0 0])
  clear HS
  go_wp2_with (first | refine wpList_load_row rfl 56 (.tmp 6) rfl q6 rfl 56 _ (0, 0) _ hb hd rfl Zn ?_ | refine wpList_store_row rfl 56 (.tmp 2) (.tmp _) rfl q2 #[.int .i64 3, .int .u32 x1, .int .u32 0, .int .u64 0, .int .u32 0, .int .u32 0, .int .u32 0, .slice none 0 0, .string ⟨#[]⟩, .slice none 0 0, .slice none 0 0, .int .u16 0, .int .u32 0, .int .u8 0, .slice none 0 0, .slice none 0 0] rfl rfl 56 _ hb2 Zn rfl hone ?_)
  refine bodyPost_ret (Zp (p := 2) (u := 3) Try.results23 _ _ q2 56 _ (0, 0) _ rfl (HS6.out.at 1 rfl) hd rfl Zn) rfl ?_
  refine ⟨I, ⟨3, x1, 0, 0, 0, 0, 0, [], ⟨#[]⟩, [], [], 0, 0, 0, [], []⟩, VH, false, rfl, .refl I, HS6.out.drop.drop, Xc I 3 x1 0, XO 3 x1 0 ⟨x1a, x1b⟩ (by decide), fun p hp => ?_⟩
  exfalso
  have := (HF.out p hp).2.2
  omega
 have hgei : ¬ (n : Int) < 10 + (Y : Int) := by omega
 have hl : ((bs.drop 10).take Y).length = Y := by rw [List.length_take, List.length_drop]; have := HN.out; omega
 have hpt := HB.out.at_part 10 Y (by rw [<- HN.out]; exact hc) (by rw [<- HN.out]; omega)
 have hcv := hpt.conv HS.out Try.underlying24 Try.underlying5 Try.underlying9 (c - 10)
 rw [hl] at hcv
 have HL := VL hl
 clear hpt hl
 obtain ⟨nm, hnm⟩ : ∃ z : ByteArray, z = ⟨((bs.drop 10).take Y).toArray⟩ := ⟨_, rfl⟩
 rw [<- hnm] at hcv HF
 have HNM := VL hnm
 clear hnm
 have hc10 : ¬ c = 10 := by omega
 have hYc : 10 + Y <= c := by omega
 have hgei2 : 10 + (Y : Int) <= (c : Int) := by omega
 obtain ⟨hcA, hfA, hlA⟩ := ZO.all (HS.out.at 0 rfl)
 have Zv := HS.out.set 8 (.string nm)
 go_upto_region 19 with fail
 generalize World.setCell W4 _ _ = W5 at Zv ⊢
 clear HS hcA hfA hlA hcv hyc
 have HS := VL Zv
 clear Zv
 have hb : ZO W5 q6 56 _ := HS.out.at 0 rfl
 have hb2 : ZO W5 q2 56 _ := HS.out.at 1 rfl
 have hone : (#[.int .i64 3, .int .u32 x1, .int .u32 0, .int .u64 0, .int .u32 0, .int .u32 0, .int .u32 0, .slice none 0 0, .string nm, .slice none 0 0, .slice none 0 0, .int .u16 0, .int .u32 0, .int .u8 0, .slice none 0 0, .slice none 0 0] : Array Value).all (·.oneCell') = true := by kernel_rfl
 have HS6 := VL (HS.out.YS #[.int .i64 3, .int .u32 x1, .int .u32 0, .int .u64 0, .int .u32 0, .int .u32 0, .int .u32 0, .slice none 0 0, .string nm, .slice none 0 0, .slice none 0 0, .int .u16 0, .int .u32 0, .int .u8 0, .slice none 0 0, .slice none 0 0])
 clear HS
 go_wp2_with (first | refine wpList_load_row rfl 56 (.tmp 6) rfl q6 rfl 56 _ (0, 0) _ hb hd rfl Zn ?_ | refine wpList_store_row rfl 56 (.tmp 2) (.tmp _) rfl q2 #[.int .i64 3, .int .u32 x1, .int .u32 0, .int .u64 0, .int .u32 0, .int .u32 0, .int .u32 0, .slice none 0 0, .string nm, .slice none 0 0, .slice none 0 0, .int .u16 0, .int .u32 0, .int .u8 0, .slice none 0 0, .slice none 0 0] rfl rfl 56 _ hb2 Zn rfl hone ?_)
 refine bodyPost_ret (Zp (p := 2) (u := 3) Try.results23 _ _ q2 56 _ (0, 0) _ rfl (HS6.out.at 1 rfl) hd rfl Zn) rfl ?_
 refine ⟨I, ⟨3, x1, 0, 0, 0, 0, 0, [], nm, [], [], 0, 0, 0, [], []⟩, VH, true, rfl, .refl I, HS6.out.drop.drop, ⟨Y4.nil I _, Y4.nil I _, Y4.nil I _, Y4.nil I _, Y4.nil I _⟩, X5 ⟨x1a, x1b⟩ (by simp) (by simp) (by simp) (by simp) (by simp) (by simp) (by simp) (by simp) (by simp) (by simp) (by simp) (by simp) (Nat.zero_le _) (Nat.zero_le _) (Nat.zero_le _) (Nat.zero_le _) (Nat.zero_le _) (by have h1 := HL.out; have h2 : nm.size = ((bs.drop 10).take Y).length := (by rw [HNM.out]; rfl); simp only []; omega), fun p hp => ?_⟩
 exact ⟨rfl, (HF.out p hp).2.1⟩
set_option maxRecDepth 100000 in
set_option maxHeartbeats 20000000 in
theorem ref4 (I : Zh) (M : List Zt) (w : World) (g o c : Nat) (bs : List UInt8) (T : Pk -> Prop) (hB : Zq I (some ⟨g, o, none⟩) bs) (hc : bs.length <= c) (h4 : 4 <= bs.length) (hm : bs.length <= 262144) (hT : ∀ p, T p -> Good p /\ Y6 p /\ bs = ZV p) (lw : Int) (hkb : Yl bs 1 1 = 203) (hlw : Yl bs 0 1 % 32 = lw)  (ZX : St I M w) :
  Calls Try.prog 23 #[.slice (some ⟨g, o, none⟩) bs.length c] w (WF I M T) := by
 obtain ⟨q2, y0, n, fs, hq2, HT, HB, ZY, hy0, hy1, hand, hlr0, hlr1, hkr0, hkr1, HKB, hn, hd⟩ := Xa hB hc h4 hT hkb hlw ZX
 have HN := VL hn
 rw [<- hn] at hc h4 hm ⊢
 skip
 clear ZX hT hB hkb hlw hn
 go_enter Try.func23, Try.ntmps23
 go_upto_region 1 with fail
 rw [<- hq2]
 clear hq2
 generalize World.alloc w _ = W at ZY hy0 hy1 ⊢
 go_quiet (fail)
 rename_i nq
 have YN := ZY.drewN nq
 clear ZY hy0 hy1 hand
 generalize W.drewN nq = W1 at YN ⊢
 obtain ⟨q6, hq6⟩ : ∃ q, q = W1.heap.size := ⟨_, rfl⟩
 have Zf := YN.alloc 56 #[.int .i64 0, .int .u32 0, .int .u32 0, .int .u64 0, .int .u32 0, .int .u32 0, .int .u32 0, .slice none 0 0, .string ⟨#[]⟩, .slice none 0 0, .slice none 0 0, .int .u16 0, .int .u32 0, .int .u8 0, .slice none 0 0, .slice none 0 0]
 rw [<- hq6] at Zf
 clear YN
 go_upto_region 3 with fail
 rw [<- hq6]
 clear hq6
 generalize World.alloc W1 _ = W2 at Zf ⊢
 have HS := VL Zf
 clear Zf
 obtain ⟨hcA, hfA, hlA⟩ := ZO.all (HS.out.at 0 rfl)
 have HNO := VL (show True from trivial)
 have Zv := HS.out.set 0 (.int .i64 4)
 go_upto_region 22 with fail
 generalize World.setCell W2 _ _ = W3 at Zv ⊢
 clear HS hcA hfA hlA
 have HS := VL Zv
 clear Zv
 have HF := VL (show ∀ p, T p -> (⟨4, 0, 0, 0, 0, 0, 0, [], ⟨#[]⟩, p.ZG, [], 0, 0, 0, [], []⟩ : Pk) = p /\ ((bs.drop 4, false) : RS) = (p.ZG.flatMap ZM, false) from fun p hp => by
  obtain ⟨hg, hok, hbs⟩ := HT.out p hp
  obtain ⟨k1, k8, hr⟩ := Y5 hg hbs
  have hkk := XF hg hbs HKB.out.1 HKB.out.2
  have h7 : p.kind = 4 := by omega
  obtain ⟨h1, h2⟩ := shape4 hg h7
  exact ⟨h1.symm, hr.trans (by rw [h2])⟩)
 go_upto_region 23 with fail
 have Yu := HS.out.nil (e := 43) (size := 1)
 clear HS
 have HS := VL Yu
 clear Yu
 try clear hcA hfA hlA
 go_loopw [9] (fun av wr => ∃ (i : Nat) (L : List Int) (A : Option Addr) (cA : Nat), av = .int .i64 i /\ i <= n /\ Hid (St I (row 43 1 (.slice A L.length cA) L.length (flat Xd L) :: bk q6 56 #[.int .i64 4, .int .u32 0, .int .u32 0, .int .u64 0, .int .u32 0, .int .u32 0, .int .u32 0, .slice none 0 0, .string ⟨#[]⟩, .slice A L.length cA, .slice none 0 0, .int .u16 0, .int .u32 0, .int .u8 0, .slice none 0 0, .slice none 0 0] :: bk q2 56 Z56 :: M) wr /\ L.length * 4 + 4 = i /\ (∀ x ∈ L, 0 <= x /\ x <= 4294967295) /\ ∀ p, T p -> ∃ t, p.ZG = L ++ t /\ ((bs.drop i, false) : RS) = (t.flatMap ZM, false))) (fun av _ => n - (intOf av).toNat)
 case atStart => exact ⟨4, [], none, 0, rfl, by omega, VL ⟨HS.out, rfl, by simp, fun p hp => ⟨p.ZG, rfl, (HF.out p hp).2⟩⟩⟩
 case round =>
  obtain ⟨i, L, A, cA, rfl, hi, hh⟩ := hrel
  clear HS
  obtain ⟨hs, hlen, Yf, ht⟩ := hh.out
  clear hh
  have HS := VL hs
  have YZ := VL (And.intro hlen (And.intro Yf ht))
  clear hs hlen Yf ht
  by_cases Z0 : i + 4 <= n
  ·skip
   have VK : (i : Int) + 4 <= (n : Int) := by omega
   obtain ⟨hcA, hfA, hlA⟩ := ZO.all (HS.out.at 1 rfl)
   go_upto_region 25 with fail
   clear hcA hfA hlA
   have YV := VL (fun (M9 : List Zt) (w' : World) (hm : bk q6 56 #[.int .i64 4, .int .u32 0, .int .u32 0, .int .u64 0, .int .u32 0, .int .u32 0, .int .u32 0, .slice none 0 0, .string ⟨#[]⟩, .slice A L.length cA, .slice none 0 0, .int .u16 0, .int .u32 0, .int .u8 0, .slice none 0 0, .slice none 0 0] ∈ M9) (hs : St I M9 w') => (show w'.cell? ⟨q6, 9, none⟩ = some (.slice A L.length cA) from (ZO.all (hs.res _ hm)).1 9))
   refine YQ (S := fun w' => w'.cell? ⟨q6, 9, none⟩ = some (.slice A L.length cA)) (by kernel_rfl) (YV.out _ _ (by simp) HS.out.drew) (fun ZL => ?_)
   have YM := HS.out.drew
   clear HS
   generalize World.drew _ = W5 at YM ZL ⊢
   refine wt 0 1 rfl (by kernel_rfl) (fun _ _ _ h => h) rfl ‹_› (by intro w h;go_simp;try with_reducible rfl) ?_
   try go_frame
   refine wt 1 6 rfl (by kernel_rfl) (fun _ _ _ h => h) rfl ‹_› (by intro w h;go_simp;try with_reducible rfl) ?_
   try go_frame
   refine wt 2 4 rfl (by kernel_rfl) (fun _ _ _ h => h) rfl ‹_› (by intro w h;go_simp;try with_reducible rfl) ?_
   try go_frame
   refine wt 3 4 rfl (by kernel_rfl) (fun _ _ _ h => h) rfl ‹_› (by intro w h;go_simp;try with_reducible rfl) ?_
   try go_frame
   have HC := XT I _ _ g o c bs (i) (HB.out) (by rw [<- HN.out]; exact hc) (by rw [<- HN.out]; omega) (by rw [<- HN.out]; omega) YM
   rw [<- HN.out] at HC
   obtain ⟨y1, hx⟩ : ∃ z, z = Yl bs (i) 4 := ⟨_, rfl⟩
   have hr := Ym bs (i)
   rw [<- hx] at HC hr
   obtain ⟨y1a, y1b⟩ := hr
   have HC := VL HC
   have Hy1 := VL hx
   clear hx
   refine ZU (i := 4) (o := _) (by kernel_rfl) rfl (fun K hK => ?_)
   go_simp
   try clear ZL
   refine HC.out.mono ?_
   clear HC
   rintro e w9 ⟨rfl, hw⟩
   subst hw
   refine hK.out _ _ (YV.out _ _ (by simp) YM) (fun ZL => ?_)
   clear hK K
   try go_frame
   refine ZU (i := 5) (o := _) (by kernel_rfl) rfl (fun K hK => ?_)
   go_simp
   have Yu := YM.Yw (P := Try.prog) (t := 47) (e := 43) (cs := #[.int .u32 y1]) (n := 1) (size := 1) rfl (by decide) Try.underlying47 (by simp [Value.oneCell'])
   have XE := YM.grow (.cells #[.int .u32 y1] 43)
   try clear ZL
   refine hK.out _ _ (YV.out _ _ (by simp) XE) (fun ZL => ?_)
   clear hK K
   try go_frame
   obtain ⟨i0, hi0, hz0, hz1, hz2⟩ := info_parts info43
   have WE := VL (show L.length <= 70000 from by have := YZ.out.1; omega)
   refine ZU (i := 6) (o := _) (by kernel_rfl) rfl (fun K hK => ?_)
   refine YU _ (by rfl) _ _ 47 47 (by rfl) 0 43 i0 (.int .u32 0) 1 4 Try.underlying47 hi0 hz0 hz1 hz2 rfl _ L.length (flat Xd L) (by rfl) XE.head _ 1 _ (by rfl) Yu (by have := WE.out; unfold maxLen; omega) (by have := WE.out; omega) (Nat.zero_le _) ?_
   intro v' w5 Z9 Zr hat
   have Zb : w5.ownsRow 0 43 1 v' (L.length + 1) (flat Xd (L ++ [(y1 : Int)])) := by rw [Z7]; exact Z9
   obtain ⟨A10, c10, rfl⟩ := ZW Zb
   have Zo := XE.grown Zr Zb (by simpa using hat)
   try clear ZL
   refine hK.out _ _ (YV.out _ _ (by simp) Zo) (fun ZL => ?_)
   clear hK K
   try go_frame
   refine wt 7 8 rfl (by kernel_rfl) (fun _ _ _ h => h) rfl ‹_› (by intro w h;go_simp;try with_reducible rfl) ?_
   try go_frame
   have HS6 := VL (show St I (row 43 1 (.slice A10 (L.length + 1) c10) (L.length + 1) (flat Xd (L ++ [(y1 : Int)])) :: bk q6 56 #[.int .i64 4, .int .u32 0, .int .u32 0, .int .u64 0, .int .u32 0, .int .u32 0, .int .u32 0, .slice none 0 0, .string ⟨#[]⟩, .slice A10 (L.length + 1) c10, .slice none 0 0, .int .u16 0, .int .u32 0, .int .u8 0, .slice none 0 0, .slice none 0 0] :: bk q2 56 Z56 :: M) (w5.setCell ⟨q6, 9, none⟩ (.slice A10 (L.length + 1) c10)) from ((Zo.ZQ.set 9 (.slice A10 (L.length + 1) c10)).ZQ))
   obtain ⟨hp, fp, lp⟩ := ZO.all (Zo.at 1 rfl)
   refine Yi (i := 8) (o := _) (by kernel_rfl) rfl (by kernel_rfl) (by kernel_rfl) (fun K hK => ?_)
   go_simp
   try clear ZL
   refine hK.out _ _ ?_
   clear hK K
   try go_frame
   clear Zo Z9 Zb Zr hat Yu XE YM hp fp lp
   go_wp2
   go_roundw
   case rel =>
    refine ⟨i + 4, L ++ [(y1 : Int)], A10, c10, by go_num, by omega, VL ⟨by rw [List.length_append]; exact HS6.out, ?_, ?_, ?_⟩⟩
    ·have h1 := YZ.out.1
     rw [List.length_append, List.length_singleton]
     omega
    ·intro x hx
     rcases List.mem_append.1 hx with hx | hx
     ·exact YZ.out.2.1 x hx
     rw [List.mem_singleton.1 hx]
     exact ⟨y1a, y1b⟩
    intro p hp
    obtain ⟨t, h1, h2⟩ := YZ.out.2.2 p hp
    have h3 := congrArg (fun r : RS => r.1.length) h2
    simp only [List.length_drop] at h3
    obtain ⟨y, t', rfl, hby⟩ := Xx (f := ZM) (l := t) (by have := HN.out; omega)
    rw [hby] at h2
    have hyr := (HT.out p hp).2.1.ZG y (by rw [h1]; simp)
    have g1 : Rd4 (bs.drop i, false) y1 (bs.drop (i + 4), false) := by rw [Hy1.out]; exact Xn (by rw [<- HN.out]; omega)
    obtain ⟨he, h5⟩ := YY g1 hyr h2
    exact ⟨t', by rw [h1, he]; simp, h5⟩
   case measure => simp [intOf]; omega
  have VK : ¬ (i : Int) + 4 <= (n : Int) := by omega
  have HE := VL (show ∀ p, T p -> p.ZG = L from fun p hp => by
   obtain ⟨t, h1, h2⟩ := YZ.out.2.2 p hp
   have h3 := congrArg (fun r : RS => r.1.length) h2
   simp only [List.length_drop] at h3
   have h4 : t = [] := fm_less (f := ZM) Zy (by have := HN.out; omega)
   rw [h1, h4, List.append_nil])
  have hcap := (Yh (show World.ownsRow _ 0 43 1 (.slice A L.length cA) L.length _ from HS.out.at 0 rfl)).2
  obtain ⟨J2, Zd, hs7, hcl⟩ := HS.out.ZR
  clear HS
  have HS := VL hs7
  have HCC := VL (And.intro hcap (And.intro Zd hcl))
  clear hs7 hcap Zd hcl
  go_upto_region 26 with fail
  have HCC2 := HCC
  have hb : ZO _ q6 56 _ := HS.out.at 0 rfl
  have hb2 : ZO _ q2 56 _ := HS.out.at 1 rfl
  have hone : (#[.int .i64 4, .int .u32 0, .int .u32 0, .int .u64 0, .int .u32 0, .int .u32 0, .int .u32 0, .slice none 0 0, .string ⟨#[]⟩, .slice A L.length cA, .slice none 0 0, .int .u16 0, .int .u32 0, .int .u8 0, .slice none 0 0, .slice none 0 0] : Array Value).all (·.oneCell') = true := by kernel_rfl
  have HS6 := VL (HS.out.YS #[.int .i64 4, .int .u32 0, .int .u32 0, .int .u64 0, .int .u32 0, .int .u32 0, .int .u32 0, .slice none 0 0, .string ⟨#[]⟩, .slice A L.length cA, .slice none 0 0, .int .u16 0, .int .u32 0, .int .u8 0, .slice none 0 0, .slice none 0 0])
  clear HS
  go_wp2_with (first | refine wpList_load_row rfl 56 (.tmp 6) rfl q6 rfl 56 _ (0, 0) _ hb hd rfl Zn ?_ | refine wpList_store_row rfl 56 (.tmp 2) (.tmp _) rfl q2 #[.int .i64 4, .int .u32 0, .int .u32 0, .int .u64 0, .int .u32 0, .int .u32 0, .int .u32 0, .slice none 0 0, .string ⟨#[]⟩, .slice A L.length cA, .slice none 0 0, .int .u16 0, .int .u32 0, .int .u8 0, .slice none 0 0, .slice none 0 0] rfl rfl 56 _ hb2 Zn rfl hone ?_)
  refine bodyPost_ret (Zp (p := 2) (u := 3) Try.results23 _ _ q2 56 _ (0, 0) _ rfl (HS6.out.at 1 rfl) hd rfl Zn) rfl ?_
  refine ⟨J2, ⟨4, 0, 0, 0, 0, 0, 0, [], ⟨#[]⟩, L, [], 0, 0, 0, [], []⟩, ⟨YA, .slice A L.length cA, YA, YA, YA⟩, true, rfl, HCC.out.2.1, HS6.out.drop.drop, by obtain ⟨hcap, _, hcl⟩ := HCC.out; exact ⟨Y4.nil J2 _, ⟨A, cA, rfl, hcl, hcap⟩, Y4.nil J2 _, Y4.nil J2 _, Y4.nil J2 _⟩, X5 (by simp) (by simp) (by simp) (by simp) (by simp) (by simp) (by simp) YZ.out.2.1 (by simp) (by simp) (by simp) (by simp) (by simp) (Nat.zero_le _) (by have := YZ.out.1; simp only []; omega) (Nat.zero_le _) (Nat.zero_le _) (Nat.zero_le _) (Nat.zero_le _), fun p hp => ?_⟩
  refine ⟨rfl, ?_⟩
  have h5 := (HF.out p hp).1
  rw [HE.out p hp] at h5
  exact h5
def Num (I : Zh) (M : List Zt) (g c : Nat) (l : List Int) (w : World) : Prop := St I (row 42 1 (.slice (some ⟨g, 0, none⟩) l.length c) l.length (flat Yp l) :: M) w
theorem Num.drew {I : Zh} {M : List Zt} {g c : Nat} {l : List Int} {w : World} (h : Num I M g c l w) : Num I M g c l w.drew := St.drew h
theorem Num.set {I : Zh} {M : List Zt} {g c : Nat} {l : List Int} {w : World} (h : Num I M g c l w) (k : Nat) (hk : k < l.length) (x : Int) : Num I M g c (l.set k x) (w.setCell ⟨g, k, none⟩ (.int .u16 x)) := by
 have hs := St.rowCellSet16 h k (.int .u16 x) (by rw [XK (s := 1) (fun _ => rfl)]; omega)
 rw [flat16_set l k x hk] at hs
 unfold Num
 rw [List.length_set]
 exact hs
theorem Num.cell {I : Zh} {M : List Zt} {g c : Nat} {l : List Int} {w : World} (h : Num I M g c l w) (k : Nat) (hk : k < l.length) : w.cell? ⟨g, k, none⟩ = some (.int .u16 l[k]) /\ w.frozen? ⟨g, k, none⟩ = false /\ g < w.heap.size := by
 obtain ⟨g', cur, e1, hg, hlc, hcm, hcs, hct, hs⟩ := St.rowBk h (by rw [XK (s := 1) (fun _ => rfl)]; omega)
 injection e1 with e1
 injection e1 with e1
 subst e1
 have hb : ZO w g 42 cur := hs.head
 refine ⟨?_, hb.frozen k, hb.lt⟩
 rw [hb.cell k]
 have h2 := flat_at (s := 1) (f := Yp) (fun _ => rfl) l k 0 hk (by decide)
 rw [<- hct] at h2
 have h3 : cur[k]? = cur.toList[k]? := by simp
 rw [h3]
 simp only [Nat.mul_one, Nat.add_zero] at h2
 rw [List.getElem?_take, if_pos hk] at h2
 rw [h2]
 rfl
def SortOk (I : Zh) (M : List Zt) (A : Option Addr) (m cq : Nat) (base : Int) (l : List Int) (cs : Array Value) (e : Ending) (w' : World) : Prop :=
 e = .returned (.agg cs) /\ ∃ l', Kept base l l' /\ St I (row 42 1 (.slice A m cq) m (flat Yp l') :: M) w'
set_option maxRecDepth 100000 in
set_option maxHeartbeats 20000000 in
theorem sortedC (I : Zh) (M : List Zt) (w : World) (x1 x2 base : Int) (A : Option Addr) (m cq : Nat) (l : List Int) (hm : m = l.length) (hm1 : m <= 10000000) (hr : Rng l) (h0 : ∀ h : 0 < l.length, l[0] = base) (ZX : St I (row 42 1 (.slice A m cq) m (flat Yp l) :: M) w) :
  Calls Try.prog 57 #[.agg #[.int .i64 5, .int .u32 x1, .int .u32 x2, .int .u64 0, .int .u32 0, .int .u32 0, .int .u32 0, .slice none 0 0, .string ⟨#[]⟩, .slice none 0 0, .slice A m cq, .int .u16 0, .int .u32 0, .int .u8 0, .slice none 0 0, .slice none 0 0]] w (SortOk I M A m cq base l #[.int .i64 5, .int .u32 x1, .int .u32 x2, .int .u64 0, .int .u32 0, .int .u32 0, .int .u32 0, .slice none 0 0, .string ⟨#[]⟩, .slice none 0 0, .slice A m cq, .int .u16 0, .int .u32 0, .int .u8 0, .slice none 0 0, .slice none 0 0]) := by
 have ZY := ZX.alloc 56 #[.int .i64 5, .int .u32 x1, .int .u32 x2, .int .u64 0, .int .u32 0, .int .u32 0, .int .u32 0, .slice none 0 0, .string ⟨#[]⟩, .slice none 0 0, .slice A m cq, .int .u16 0, .int .u32 0, .int .u8 0, .slice none 0 0, .slice none 0 0]
 obtain ⟨q1, hq1⟩ : ∃ q, q = w.heap.size := ⟨_, rfl⟩
 rw [<- hq1] at ZY
 have YN := ZY.alloc 56 #[.int .i64 0, .int .u32 0, .int .u32 0, .int .u64 0, .int .u32 0, .int .u32 0, .int .u32 0, .slice none 0 0, .string ⟨#[]⟩, .slice none 0 0, .slice none 0 0, .int .u16 0, .int .u32 0, .int .u8 0, .slice none 0 0, .slice none 0 0]
 simp only [World.size_alloc] at YN
 rw [<- hq1] at YN
 have HS := VL YN.Ya
 have HL := VL (And.intro hm (And.intro hr h0))
 obtain ⟨fs, hd⟩ := st56D
 clear ZX ZY YN hm hr h0
 go_enter Try.func57, Try.ntmps57
 go_upto_region 1 with fail
 rw [<- hq1]
 obtain ⟨q2, hq2⟩ : ∃ q, q = q1 + 1 := ⟨_, rfl⟩
 rw [<- hq2] at HS ⊢
 clear hq2 hq1
 generalize World.alloc (World.alloc w _) _ = W at HS ⊢
 obtain ⟨hcA, hfA, hlA⟩ := ZO.all (HS.out.at 1 rfl)
 go_upto_region 2 with fail
 clear hcA hfA hlA
 go_loopw [8] (fun iv wr => ∃ i : Nat, iv = .int .i64 i /\ i <= m /\ Hid (∃ l', Kept base l l' /\ (∀ h : 0 < l'.length, l'[0] = base) /\ St I (row 42 1 (.slice A m cq) m (flat Yp l') :: bk q1 56 #[.int .i64 5, .int .u32 x1, .int .u32 x2, .int .u64 0, .int .u32 0, .int .u32 0, .int .u32 0, .slice none 0 0, .string ⟨#[]⟩, .slice none 0 0, .slice A m cq, .int .u16 0, .int .u32 0, .int .u8 0, .slice none 0 0, .slice none 0 0] :: bk q2 56 #[.int .i64 0, .int .u32 0, .int .u32 0, .int .u64 0, .int .u32 0, .int .u32 0, .int .u32 0, .slice none 0 0, .string ⟨#[]⟩, .slice none 0 0, .slice none 0 0, .int .u16 0, .int .u32 0, .int .u8 0, .slice none 0 0, .slice none 0 0] :: M) wr)) (fun iv _ => m - (intOf iv).toNat)
 case atStart => exact ⟨0, rfl, by omega, VL ⟨l, .refl HL.out.2.1, HL.out.2.2, HS.out⟩⟩
 case round =>
  obtain ⟨i, rfl, hi, hh⟩ := hrel
  clear HS
  by_cases Z0 : i < m
  ·skip
   have VK : (i : Int) < (m : Int) := by omega
   go_upto_region 5 with fail
   go_loopw [4] (fun kv wr' => ∃ k : Nat, kv = .int .i64 k /\ k <= i /\ Hid (∃ l', Kept base l l' /\ (∀ h : 0 < l'.length, l'[0] = base) /\ St I (row 42 1 (.slice A m cq) m (flat Yp l') :: bk q1 56 #[.int .i64 5, .int .u32 x1, .int .u32 x2, .int .u64 0, .int .u32 0, .int .u32 0, .int .u32 0, .slice none 0 0, .string ⟨#[]⟩, .slice none 0 0, .slice A m cq, .int .u16 0, .int .u32 0, .int .u8 0, .slice none 0 0, .slice none 0 0] :: bk q2 56 #[.int .i64 0, .int .u32 0, .int .u32 0, .int .u64 0, .int .u32 0, .int .u32 0, .int .u32 0, .slice none 0 0, .string ⟨#[]⟩, .slice none 0 0, .slice none 0 0, .int .u16 0, .int .u32 0, .int .u8 0, .slice none 0 0, .slice none 0 0] :: M) wr')) (fun kv _ => (intOf kv).toNat)
   case atStart => exact ⟨i, rfl, by omega, hh⟩
   case round =>
    obtain ⟨k, rfl, hk, hh⟩ := hrel
    by_cases hk1 : 1 < k
    ·skip
     obtain ⟨l', hkp, hb0, hs⟩ := hh.out
     have hl' : l'.length = m := by rw [hkp.len, <- HL.out.1]
     obtain ⟨g, cur, rfl, -⟩ := hs.rowBk (by rw [XK (s := 1) (fun _ => rfl)]; omega)
     obtain ⟨j, hj⟩ : ∃ j, j = k - 1 := ⟨_, rfl⟩
     have hn0 : Num I (bk q1 56 #[.int .i64 5, .int .u32 x1, .int .u32 x2, .int .u64 0, .int .u32 0, .int .u32 0, .int .u32 0, .slice none 0 0, .string ⟨#[]⟩, .slice none 0 0, .slice (some ⟨g, 0, none⟩) m cq, .int .u16 0, .int .u32 0, .int .u8 0, .slice none 0 0, .slice none 0 0] :: bk q2 56 #[.int .i64 0, .int .u32 0, .int .u32 0, .int .u64 0, .int .u32 0, .int .u32 0, .int .u32 0, .slice none 0 0, .string ⟨#[]⟩, .slice none 0 0, .slice none 0 0, .int .u16 0, .int .u32 0, .int .u8 0, .slice none 0 0, .slice none 0 0] :: M) g cq l' wr := by unfold Num; rw [hl']; exact hs
     have HNM := VL (And.intro hn0 (And.intro hkp (And.intro hb0 hl')))
     have HJ := VL hj
     obtain ⟨a, ha⟩ : ∃ z, z = l'[k]'(by omega) := ⟨_, rfl⟩
     obtain ⟨d, hdd⟩ : ∃ z, z = l'[j]'(by omega) := ⟨_, rfl⟩
     have ck := (hn0.cell k (by omega)).1
     have cj := (hn0.cell j (by omega)).1
     have c0 := (hn0.cell 0 (by omega)).1
     rw [hb0 (by omega)] at c0
     rw [<- ha] at ck
     rw [<- hdd] at cj
     obtain ⟨hcA, hfA, hlA⟩ := ZO.all (hs.at 1 rfl)
     have HAD := VL (show (∃ h, a = l'[k]'h) /\ (∃ h, d = l'[j]'h) from ⟨⟨by omega, ha⟩, ⟨by omega, hdd⟩⟩)
     have hk1i : (1 : Int) < (k : Int) := by omega
     have hkm : (k : Int) < (m : Int) := by omega
     have hjm : (j : Int) < (m : Int) := by omega
     have h0m : (0 : Int) < (m : Int) := by omega
     have hkj : (k : Int) - 1 = (j : Int) := by omega
     have hjw : IntKind.i64.wrap (j : Int) = (j : Int) := wrap_i64 (by omega) (by omega)
     have hhk := hh
     clear hs hkp hb0 hl' hn0 ha hdd hj hh
     by_cases hcmp : IntKind.u16.wrap (a - base) < IntKind.u16.wrap (d - base)
     ·skip
      go_upto_region 5 with fail
      go_quiet (fail)
      rename_i nq
      have HCM := VL hcmp
      clear ck cj c0 hcA hfA hlA
      have hn1 : Num I (bk q1 56 #[.int .i64 5, .int .u32 x1, .int .u32 x2, .int .u64 0, .int .u32 0, .int .u32 0, .int .u32 0, .slice none 0 0, .string ⟨#[]⟩, .slice none 0 0, .slice (some ⟨g, 0, none⟩) m cq, .int .u16 0, .int .u32 0, .int .u8 0, .slice none 0 0, .slice none 0 0] :: bk q2 56 #[.int .i64 0, .int .u32 0, .int .u32 0, .int .u64 0, .int .u32 0, .int .u32 0, .int .u32 0, .slice none 0 0, .string ⟨#[]⟩, .slice none 0 0, .slice none 0 0, .int .u16 0, .int .u32 0, .int .u8 0, .slice none 0 0, .slice none 0 0] :: M) g cq l' (wr.drewN nq) := St.drewN HNM.out.1 nq
      generalize wr.drewN nq = W5 at hn1 ⊢
      obtain ⟨hcA, hfA, hlA⟩ := ZO.all (hn1.at 1 rfl)
      have hl' := HNM.out.2.2.2
      have hk9 : k < l'.length := by omega
      have hj9 : j < l'.length := by have := HJ.out; omega
      obtain ⟨c1, c2, c3⟩ := hn1.cell k hk9
      obtain ⟨c4, c5, c6⟩ := hn1.cell j hj9
      have ZY := hn1.set k hk9 l'[j]
      have YN := ZY.set j (by rw [List.length_set]; exact hj9) l'[k]
      have HS3 := VL (Num.drew YN)
      obtain ⟨⟨_, hA1⟩, ⟨_, hA2⟩⟩ := HAD.out
      rw [<- hA1, <- hA2] at HS3
      rw [<- hA1] at c1
      rw [<- hA2] at c4 ZY
      clear hA1 hA2
      obtain ⟨d1, d2, d3⟩ := ZY.cell j (by rw [List.length_set]; exact hj9)
      obtain ⟨hcB, hfB, hlB⟩ := ZO.all (ZY.at 1 rfl)
      clear hn1 ZY YN hl' hcmp
      go_upto_region 7 with fail
      go_region
      clear c1 c2 c3 c4 c5 c6 d1 d2 d3 hcA hfA hlA hcB hfB hlB
      go_wp2
      go_roundw
      case rel =>
       have hl' := HNM.out.2.2.2
       have hlen : ((l'.set k d).set j a).length = m := by rw [List.length_set, List.length_set]; exact hl'
       have hjk := HJ.out
       refine ⟨j, by first | rfl | go_num, by omega, VL ⟨(l'.set k d).set j a, ?_, fun h => ?_, ?_⟩⟩
       ·refine HNM.out.2.1.trans (Kept.un (by rw [hlen, hl']) ?_ (fun hso => ?_))
        ·have h1 := HNM.out.2.1.rng
         obtain ⟨⟨_, hA1⟩, ⟨_, hA2⟩⟩ := HAD.out
         have e1 : 0 <= a /\ a <= 65535 := by rw [hA1]; exact h1 _ (List.getElem_mem _)
         have e2 : 0 <= d /\ d <= 65535 := by rw [hA2]; exact h1 _ (List.getElem_mem _)
         exact (h1.set e2).set e1
        have h1 := hso j k (by omega) (by omega)
        obtain ⟨⟨_, hA1⟩, ⟨_, hA2⟩⟩ := HAD.out
        rw [<- hA1, <- hA2] at h1
        have h2 := HCM.out
        rw [Y9, Y9] at h2
        unfold Xm at h1
        omega
       ·rw [List.getElem_set_ne (by omega), List.getElem_set_ne (by omega)]
        exact HNM.out.2.2.1 (by omega)
       have h1 := HS3.out
       unfold Num at h1
       rw [hlen] at h1
       exact h1
      case measure =>
       have := HJ.out
       simp [intOf]
       omega
     have hh := hhk
     go_upto_region 5 with fail
     go_quiet (fail)
     rename_i nq
     clear ck cj c0 hcA hfA hlA
     go_wp2
     go_roundw
     case rel =>
      obtain ⟨l', h1, h2, h3⟩ := hh.out
      exact ⟨i + 1, by go_num, by omega, VL ⟨l', h1, h2, h3.drewN nq⟩⟩
     case measure => simp [intOf]; omega
    have hk1i : ¬ (1 : Int) < (k : Int) := by omega
    go_upto_region 5 with fail
    go_quiet (fail)
    rename_i nq
    go_wp2
    go_roundw
    case rel =>
     obtain ⟨l', h1, h2, h3⟩ := hh.out
     exact ⟨i + 1, by go_num, by omega, VL ⟨l', h1, h2, h3.drewN nq⟩⟩
    case measure => simp [intOf]; omega
  have hin : i = m := by omega
  obtain ⟨l', h1, h2, h3⟩ := hh.out
  have hs := h3.Ya
  have hb : ZO wr q1 56 #[.int .i64 5, .int .u32 x1, .int .u32 x2, .int .u64 0, .int .u32 0, .int .u32 0, .int .u32 0, .slice none 0 0, .string ⟨#[]⟩, .slice none 0 0, .slice A m cq, .int .u16 0, .int .u32 0, .int .u8 0, .slice none 0 0, .slice none 0 0] := hs.at 1 rfl
  have hb2 : ZO wr q2 56 #[.int .i64 0, .int .u32 0, .int .u32 0, .int .u64 0, .int .u32 0, .int .u32 0, .int .u32 0, .slice none 0 0, .string ⟨#[]⟩, .slice none 0 0, .slice none 0 0, .int .u16 0, .int .u32 0, .int .u8 0, .slice none 0 0, .slice none 0 0] := hs.at 0 rfl
  have hone : (#[.int .i64 5, .int .u32 x1, .int .u32 x2, .int .u64 0, .int .u32 0, .int .u32 0, .int .u32 0, .slice none 0 0, .string ⟨#[]⟩, .slice none 0 0, .slice A m cq, .int .u16 0, .int .u32 0, .int .u8 0, .slice none 0 0, .slice none 0 0] : Array Value).all (·.oneCell') = true := by kernel_rfl
  have HS6 := VL (hs.setR #[.int .i64 5, .int .u32 x1, .int .u32 x2, .int .u64 0, .int .u32 0, .int .u32 0, .int .u32 0, .slice none 0 0, .string ⟨#[]⟩, .slice none 0 0, .slice A m cq, .int .u16 0, .int .u32 0, .int .u8 0, .slice none 0 0, .slice none 0 0])
  have HK := VL h1
  clear hs h1 h2 h3 hh
  go_wp2_with (first | refine wpList_load_row rfl 56 (.tmp 1) rfl q1 rfl 56 _ (0, 0) _ hb hd rfl Zn ?_ | refine wpList_store_row rfl 56 (.tmp 2) (.tmp _) rfl q2 #[.int .i64 5, .int .u32 x1, .int .u32 x2, .int .u64 0, .int .u32 0, .int .u32 0, .int .u32 0, .slice none 0 0, .string ⟨#[]⟩, .slice none 0 0, .slice A m cq, .int .u16 0, .int .u32 0, .int .u8 0, .slice none 0 0, .slice none 0 0] rfl rfl 56 _ hb2 Zn rfl hone ?_)
  refine bodyPost_ret (results_cell_row (p := 2) Try.results57 _ _ q2 56 _ (0, 0) _ rfl (HS6.out.at 0 rfl) hd rfl Zn) rfl ?_
  exact ⟨rfl, l', HK.out, HS6.out.Ya.ZQ.drop.ZQ.drop⟩
end Go.Proofs.Ytddopbbmgpnjjaa
