/- part. -/
import Derived.Test.YtddopbbmgpnjjaaZT21
namespace Go.Proofs.Ytddopbbmgpnjjaa
set_option linter.unusedSimpArgs false
open Go.RowKit
set_option maxRecDepth 100000 in
set_option maxHeartbeats 20000000 in
theorem ref7 (I : Zh) (M : List Zt) (w : World) (g o c : Nat) (bs : List UInt8) (T : Pk -> Prop) (hB : Zq I (some ⟨g, o, none⟩) bs) (hc : bs.length <= c) (h4 : 4 <= bs.length) (hm : bs.length <= 262144) (hT : ∀ p, T p -> Good p /\ Y6 p /\ bs = ZV p) (hkb : Yl bs 1 1 = 206) (hlw : Yl bs 0 1 % 32 = 1) (h8 : 12 <= bs.length) (ZX : St I M w) :
  Calls Try.prog 23 #[.slice (some ⟨g, o, none⟩) bs.length c] w (WF I M T) := by
 obtain ⟨q2, y0, n, fs, hq2, HT, HB, ZY, hy0, hy1, hand, hlr0, hlr1, hkr0, hkr1, HKB, hn, hd⟩ := Xa hB hc h4 hT hkb hlw ZX
 have HN := VL hn
 rw [<- hn] at hc h4 hm ⊢
 rw [<- hn] at h8
 clear ZX hT hB hkb hlw hn
 go_enter Try.func23, Try.ntmps23
 go_upto_region 1 with fail
 rw [<- hq2]
 clear hq2
 generalize World.alloc w _ = W at ZY hy0 hy1 ⊢
 go_quiet (fail)
 rename_i nq
 have YN := ZY.drewN nq
 clear ZY hy0 hy1 hand
 generalize W.drewN nq = W1 at YN ⊢
 obtain ⟨q6, hq6⟩ : ∃ q, q = W1.heap.size := ⟨_, rfl⟩
 have Zf := YN.alloc 56 #[.int .i64 0, .int .u32 0, .int .u32 0, .int .u64 0, .int .u32 0, .int .u32 0, .int .u32 0, .slice none 0 0, .string ⟨#[]⟩, .slice none 0 0, .slice none 0 0, .int .u16 0, .int .u32 0, .int .u8 0, .slice none 0 0, .slice none 0 0]
 rw [<- hq6] at Zf
 clear YN
 go_upto_region 3 with fail
 rw [<- hq6]
 clear hq6
 generalize World.alloc W1 _ = W2 at Zf ⊢
 have HS := VL Zf
 clear Zf
 obtain ⟨hcA, hfA, hlA⟩ := ZO.all (HS.out.at 0 rfl)
 have HNO := VL (show True from trivial)
 have HC := XT I _ _ g o c bs (4) (HB.out) (by rw [<- HN.out]; exact hc) (by rw [<- HN.out]; omega) (by rw [<- HN.out]; omega) HS.out
 rw [<- HN.out] at HC
 obtain ⟨x1, hx⟩ : ∃ z, z = Yl bs (4) 4 := ⟨_, rfl⟩
 have hr := Ym bs (4)
 rw [<- hx] at HC hr
 obtain ⟨x1a, x1b⟩ := hr
 have HC := VL HC
 have Hx1 := VL hx
 clear hx
 go_wp2_with fail
 go_at_call 56
 refine HC.out.mono ?_
 clear HC
 rintro e w9 ⟨rfl, hw⟩
 subst hw
 have Zv := (HS.out.set 1 (.int .u32 x1))
 go_upto_region 35 with fail
 generalize World.setCell W2 _ _ = W3 at Zv ⊢
 clear HS hcA hfA hlA
 have HS := VL Zv
 clear Zv
 obtain ⟨hcA, hfA, hlA⟩ := ZO.all (HS.out.at 0 rfl)
 have HC := XT I _ _ g o c bs (8) (HB.out) (by rw [<- HN.out]; exact hc) (by rw [<- HN.out]; omega) (by rw [<- HN.out]; omega) HS.out
 rw [<- HN.out] at HC
 obtain ⟨x2, hx⟩ : ∃ z, z = Yl bs (8) 4 := ⟨_, rfl⟩
 have hr := Ym bs (8)
 rw [<- hx] at HC hr
 obtain ⟨x2a, x2b⟩ := hr
 have HC := VL HC
 have Hx2 := VL hx
 clear hx
 go_wp2_with fail
 go_at_call 56
 refine HC.out.mono ?_
 clear HC
 rintro e w9 ⟨rfl, hw⟩
 subst hw
 have Zv := (HS.out.set 2 (.int .u32 x2)).set 0 (.int .i64 7)
 go_upto_region 78 with fail
 generalize World.setCell (World.setCell W3 _ _) _ _ = W4 at Zv ⊢
 clear HS hcA hfA hlA
 have HS := VL Zv
 clear Zv
 have hb : ZO W4 q6 56 _ := HS.out.at 0 rfl
 have hb2 : ZO W4 q2 56 _ := HS.out.at 1 rfl
 have hone : (#[.int .i64 7, .int .u32 x1, .int .u32 x2, .int .u64 0, .int .u32 0, .int .u32 0, .int .u32 0, .slice none 0 0, .string ⟨#[]⟩, .slice none 0 0, .slice none 0 0, .int .u16 0, .int .u32 0, .int .u8 0, .slice none 0 0, .slice none 0 0] : Array Value).all (·.oneCell') = true := by kernel_rfl
 have HS6 := VL (HS.out.YS #[.int .i64 7, .int .u32 x1, .int .u32 x2, .int .u64 0, .int .u32 0, .int .u32 0, .int .u32 0, .slice none 0 0, .string ⟨#[]⟩, .slice none 0 0, .slice none 0 0, .int .u16 0, .int .u32 0, .int .u8 0, .slice none 0 0, .slice none 0 0])
 clear HS
 go_wp2_with (first | refine wpList_load_row rfl 56 (.tmp 6) rfl q6 rfl 56 _ (0, 0) _ hb hd rfl Zn ?_ | refine wpList_store_row rfl 56 (.tmp 2) (.tmp _) rfl q2 #[.int .i64 7, .int .u32 x1, .int .u32 x2, .int .u64 0, .int .u32 0, .int .u32 0, .int .u32 0, .slice none 0 0, .string ⟨#[]⟩, .slice none 0 0, .slice none 0 0, .int .u16 0, .int .u32 0, .int .u8 0, .slice none 0 0, .slice none 0 0] rfl rfl 56 _ hb2 Zn rfl hone ?_)
 refine bodyPost_ret (Zp (p := 2) (u := 3) Try.results23 _ _ q2 56 _ (0, 0) _ rfl (HS6.out.at 1 rfl) hd rfl Zn) rfl ?_
 refine ⟨I, ⟨7, x1, x2, 0, 0, 0, 0, [], ⟨#[]⟩, [], [], 0, 0, 0, [], []⟩, VH, true, rfl, .refl I, HS6.out.drop.drop, Xc I 7 x1 x2, XO 7 x1 x2 ⟨x1a, x1b⟩ ⟨x2a, x2b⟩, fun p hp => ?_⟩
 refine ⟨rfl, ?_⟩
 obtain ⟨hg, hok, hbs⟩ := HT.out p hp
 obtain ⟨k1, k8, hr⟩ := Y5 hg hbs
 have hkk := XF hg hbs HKB.out.1 HKB.out.2
 have h7 : p.kind = 7 := by omega
 obtain ⟨h1, h2⟩ := shape7 hg h7
 rw [h2] at hr
 obtain ⟨a1, hr⟩ := YY (Xn (by rw [<- HN.out]; omega)) hok.ZA hr
 obtain ⟨a2, hr⟩ := YY (Xn (by rw [<- HN.out]; omega)) hok.ZC hr
 rw [h1, Hx1.out, Hx2.out, a1, a2]
set_option maxRecDepth 100000 in
set_option maxHeartbeats 20000000 in
theorem ref8 (I : Zh) (M : List Zt) (w : World) (g o c : Nat) (bs : List UInt8) (T : Pk -> Prop) (hB : Zq I (some ⟨g, o, none⟩) bs) (hc : bs.length <= c) (h4 : 4 <= bs.length) (hm : bs.length <= 262144) (hT : ∀ p, T p -> Good p /\ Y6 p /\ bs = ZV p) (hkb : Yl bs 1 1 = 206) (hlw : Yl bs 0 1 % 32 = 4) (h8 : 12 <= bs.length) (ZX : St I M w) :
  Calls Try.prog 23 #[.slice (some ⟨g, o, none⟩) bs.length c] w (WF I M T) := by
 obtain ⟨q2, y0, n, fs, hq2, HT, HB, ZY, hy0, hy1, hand, hlr0, hlr1, hkr0, hkr1, HKB, hn, hd⟩ := Xa hB hc h4 hT hkb hlw ZX
 have HN := VL hn
 rw [<- hn] at hc h4 hm ⊢
 rw [<- hn] at h8
 clear ZX hT hB hkb hlw hn
 go_enter Try.func23, Try.ntmps23
 go_upto_region 1 with fail
 rw [<- hq2]
 clear hq2
 generalize World.alloc w _ = W at ZY hy0 hy1 ⊢
 go_quiet (fail)
 rename_i nq
 have YN := ZY.drewN nq
 clear ZY hy0 hy1 hand
 generalize W.drewN nq = W1 at YN ⊢
 obtain ⟨q6, hq6⟩ : ∃ q, q = W1.heap.size := ⟨_, rfl⟩
 have Zf := YN.alloc 56 #[.int .i64 0, .int .u32 0, .int .u32 0, .int .u64 0, .int .u32 0, .int .u32 0, .int .u32 0, .slice none 0 0, .string ⟨#[]⟩, .slice none 0 0, .slice none 0 0, .int .u16 0, .int .u32 0, .int .u8 0, .slice none 0 0, .slice none 0 0]
 rw [<- hq6] at Zf
 clear YN
 go_upto_region 3 with fail
 rw [<- hq6]
 clear hq6
 generalize World.alloc W1 _ = W2 at Zf ⊢
 have HS := VL Zf
 clear Zf
 obtain ⟨hcA, hfA, hlA⟩ := ZO.all (HS.out.at 0 rfl)
 have HNO := VL (show True from trivial)
 have HC := XT I _ _ g o c bs (4) (HB.out) (by rw [<- HN.out]; exact hc) (by rw [<- HN.out]; omega) (by rw [<- HN.out]; omega) HS.out
 rw [<- HN.out] at HC
 obtain ⟨x1, hx⟩ : ∃ z, z = Yl bs (4) 4 := ⟨_, rfl⟩
 have hr := Ym bs (4)
 rw [<- hx] at HC hr
 obtain ⟨x1a, x1b⟩ := hr
 have HC := VL HC
 have Hx1 := VL hx
 clear hx
 go_wp2_with fail
 go_at_call 56
 refine HC.out.mono ?_
 clear HC
 rintro e w9 ⟨rfl, hw⟩
 subst hw
 have Zv := (HS.out.set 1 (.int .u32 x1))
 go_upto_region 35 with fail
 generalize World.setCell W2 _ _ = W3 at Zv ⊢
 clear HS hcA hfA hlA
 have HS := VL Zv
 clear Zv
 obtain ⟨hcA, hfA, hlA⟩ := ZO.all (HS.out.at 0 rfl)
 have HC := XT I _ _ g o c bs (8) (HB.out) (by rw [<- HN.out]; exact hc) (by rw [<- HN.out]; omega) (by rw [<- HN.out]; omega) HS.out
 rw [<- HN.out] at HC
 obtain ⟨x2, hx⟩ : ∃ z, z = Yl bs (8) 4 := ⟨_, rfl⟩
 have hr := Ym bs (8)
 rw [<- hx] at HC hr
 obtain ⟨x2a, x2b⟩ := hr
 have HC := VL HC
 have Hx2 := VL hx
 clear hx
 go_wp2_with fail
 go_at_call 56
 refine HC.out.mono ?_
 clear HC
 rintro e w9 ⟨rfl, hw⟩
 subst hw
 have Zv := (HS.out.set 2 (.int .u32 x2)).set 0 (.int .i64 8)
 go_upto_region 74 with fail
 generalize World.setCell (World.setCell W3 _ _) _ _ = W4 at Zv ⊢
 clear HS hcA hfA hlA
 have HS := VL Zv
 clear Zv
 have HF := VL (show ∀ p, T p -> (⟨8, x1, x2, 0, 0, 0, 0, [], ⟨#[]⟩, [], [], 0, 0, 0, [], p.ZB⟩ : Pk) = p /\ ((bs.drop 12, false) : RS) = (p.ZB.flatMap XU, false) from fun p hp => by
  obtain ⟨hg, hok, hbs⟩ := HT.out p hp
  obtain ⟨k1, k8, hr⟩ := Y5 hg hbs
  have hkk := XF hg hbs HKB.out.1 HKB.out.2
  have h7 : p.kind = 8 := by omega
  obtain ⟨h1, h2⟩ := shape8 hg h7
  rw [h2] at hr
  obtain ⟨a1, hr⟩ := YY (Xn (by rw [<- HN.out]; omega)) hok.ZA hr
  obtain ⟨a2, hr⟩ := YY (Xn (by rw [<- HN.out]; omega)) hok.ZC hr
  refine ⟨?_, hr⟩
  rw [Hx1.out, Hx2.out, a1, a2]
  exact h1.symm)
 go_upto_region 75 with fail
 have Yu := HS.out.nil (e := 67) (size := 2)
 clear HS
 have HS := VL Yu
 clear Yu
 try clear hcA hfA hlA
 go_loopw [7] (fun av wr => ∃ (i : Nat) (L : List Wn) (A : Option Addr) (cA : Nat), av = .int .i64 i /\ i <= n /\ Hid (St I (row 67 2 (.slice A L.length cA) L.length (flat WO L) :: bk q6 56 #[.int .i64 8, .int .u32 x1, .int .u32 x2, .int .u64 0, .int .u32 0, .int .u32 0, .int .u32 0, .slice none 0 0, .string ⟨#[]⟩, .slice none 0 0, .slice none 0 0, .int .u16 0, .int .u32 0, .int .u8 0, .slice none 0 0, .slice A L.length cA] :: bk q2 56 Z56 :: M) wr /\ L.length * 8 + 12 = i /\ (∀ x ∈ L, (0 <= x.src /\ x.src <= 4294967295) /\ (0 <= x.seq /\ x.seq <= 255)) /\ ∀ p, T p -> ∃ t, p.ZB = L ++ t /\ ((bs.drop i, false) : RS) = (t.flatMap XU, false))) (fun av _ => n - (intOf av).toNat)
 case atStart => exact ⟨12, [], none, 0, rfl, by omega, VL ⟨HS.out, rfl, by simp, fun p hp => ⟨p.ZB, rfl, (HF.out p hp).2⟩⟩⟩
 case round =>
  obtain ⟨i, L, A, cA, rfl, hi, hh⟩ := hrel
  clear HS
  obtain ⟨hs, hlen, Yf, ht⟩ := hh.out
  clear hh
  have HS := VL hs
  have YZ := VL (And.intro hlen (And.intro Yf ht))
  clear hs hlen Yf ht
  by_cases Z0 : i + 8 <= n
  ·skip
   have VK : (i : Int) + 8 <= (n : Int) := by omega
   obtain ⟨hcA, hfA, hlA⟩ := ZO.all (HS.out.at 1 rfl)
   obtain ⟨y2, hy2⟩ : ∃ z, z = Yl bs (i + 4) 1 := ⟨_, rfl⟩
   have HY := VL (fun (M9 : List Zt) (w' : World) (hs : St I M9 w') => (show w'.cell? ⟨g, o + (i + 4), none⟩ = some (.int .u8 y2) from by
    obtain ⟨g', o', e, ZK⟩ := HB.out.at (by rw [<- HN.out]; omega)
    injection e with e
    injection e with e1 e2
    subst e1 e2
    rw [hy2, nmA_1 (by rw [<- HN.out]; omega)]
    exact ZK _ _ hs (i + 4) (by rw [<- HN.out]; omega)))
   have hr2 := Wp bs (i + 4) 1
   have h9 : ((256 ^ 1 : Nat) : Int) = 256 := (by decide)
   rw [<- hy2, h9] at hr2
   have y2a := hr2.1
   have y2b : y2 <= 255 := by omega
   clear hr2 h9
   have Hy2 := VL hy2
   clear hy2
   go_upto_region 77 with fail
   have hw4 : IntKind.i64.wrap ((i : Int) + 4) = (i : Int) + 4 := wrap_i64 (by omega) (by omega)
   have ht4 : ((i : Int) + 4).toNat = i + 4 := by omega
   have hp4 : 0 <= (i : Int) + 4 := by omega
   have hu4 : (i : Int) + 4 < (n : Int) := by omega
   clear hcA hfA hlA
   have YV := VL (fun (M9 : List Zt) (w' : World) (hm : bk q6 56 #[.int .i64 8, .int .u32 x1, .int .u32 x2, .int .u64 0, .int .u32 0, .int .u32 0, .int .u32 0, .slice none 0 0, .string ⟨#[]⟩, .slice none 0 0, .slice none 0 0, .int .u16 0, .int .u32 0, .int .u8 0, .slice none 0 0, .slice A L.length cA] ∈ M9) (hs : St I M9 w') => (show w'.cell? ⟨q6, 15, none⟩ = some (.slice A L.length cA) /\ w'.cell? ⟨g, o + (i + 4), none⟩ = some (.int .u8 y2) from ⟨(ZO.all (hs.res _ hm)).1 15, HY.out M9 w' hs⟩))
   refine YQ (S := fun w' => w'.cell? ⟨q6, 15, none⟩ = some (.slice A L.length cA) /\ w'.cell? ⟨g, o + (i + 4), none⟩ = some (.int .u8 y2)) (by kernel_rfl) (YV.out _ _ (by simp) HS.out.drew) (fun ZL => ?_)
   have YM := HS.out.drew
   clear HS
   generalize World.drew _ = W5 at YM ZL ⊢
   refine wt 0 1 rfl (by kernel_rfl) (fun _ _ _ h => h) rfl ‹_› (by intro w h;go_simp;try with_reducible rfl) ?_
   try go_frame
   refine wt 1 12 rfl (by kernel_rfl) (fun _ _ _ h => h) rfl ‹_› (by intro w h;go_simp;try with_reducible rfl) ?_
   try go_frame
   refine wt 2 4 rfl (by kernel_rfl) (fun _ _ _ h => h) rfl ‹_› (by intro w h;go_simp;try with_reducible rfl) ?_
   try go_frame
   refine wt 3 4 rfl (by kernel_rfl) (fun _ _ _ h => h) rfl ‹_› (by intro w h;go_simp;try with_reducible rfl) ?_
   try go_frame
   refine wt 5 8 rfl (by kernel_rfl) (fun _ _ _ h => h) rfl ‹_› (by intro w h;go_simp;try with_reducible rfl) ?_
   try go_frame
   refine wt 6 7 rfl (by kernel_rfl) (fun _ _ _ h => h) rfl ‹_› (by intro w h;go_simp;try with_reducible rfl) ?_
   try go_frame
   refine wt 7 8 rfl (by kernel_rfl) (fun _ _ _ h => h) rfl ‹_› (by intro w h;go_simp;try with_reducible rfl) ?_
   try go_frame
   refine wt 8 9 rfl (by kernel_rfl) (fun _ _ _ h => h) rfl ‹_› (by intro w h;go_simp;try with_reducible rfl) ?_
   try go_frame
   refine wt 9 10 rfl (by kernel_rfl) (fun _ _ _ h => h) rfl ‹_› (by intro w h;go_simp;try with_reducible rfl) ?_
   try go_frame
   clear hw4 ht4 hp4 hu4
   have HC := XT I _ _ g o c bs (i) (HB.out) (by rw [<- HN.out]; exact hc) (by rw [<- HN.out]; omega) (by rw [<- HN.out]; omega) YM
   rw [<- HN.out] at HC
   obtain ⟨y1, hx⟩ : ∃ z, z = Yl bs (i) 4 := ⟨_, rfl⟩
   have hr := Ym bs (i)
   rw [<- hx] at HC hr
   obtain ⟨y1a, y1b⟩ := hr
   have HC := VL HC
   have Hy1 := VL hx
   clear hx
   refine ZU (i := 4) (o := _) (by kernel_rfl) rfl (fun K hK => ?_)
   go_simp
   try clear ZL
   refine HC.out.mono ?_
   clear HC
   rintro e w9 ⟨rfl, hw⟩
   subst hw
   refine hK.out _ _ (YV.out _ _ (by simp) YM) (fun ZL => ?_)
   clear hK K
   try go_frame
   refine wt 10 11 rfl (by kernel_rfl) (fun _ _ _ h => h) rfl ‹_› (by intro w h;go_simp;try with_reducible rfl) ?_
   try go_frame
   refine ZU (i := 11) (o := _) (by kernel_rfl) rfl (fun K hK => ?_)
   go_simp
   have Yu := YM.Yw (P := Try.prog) (t := 54) (e := 67) (cs := #[.int .u32 y1, .int .u8 y2]) (n := 1) (size := 2) rfl (by decide) Try.underlying54 (by simp [Value.oneCell'])
   have XE := YM.grow (.cells #[.int .u32 y1, .int .u8 y2] 67)
   try clear ZL
   refine hK.out _ _ (YV.out _ _ (by simp) XE) (fun ZL => ?_)
   clear hK K
   try go_frame
   obtain ⟨i0, hi0, hz0, hz1, hz2⟩ := info_parts info67
   have WE := VL (show L.length <= 70000 from by have := YZ.out.1; omega)
   refine ZU (i := 12) (o := _) (by kernel_rfl) rfl (fun K hK => ?_)
   refine YU _ (by rfl) _ _ 54 54 (by rfl) 0 67 i0 (.agg #[.int .u32 0, .int .u8 0]) 2 8 Try.underlying54 hi0 hz0 hz1 hz2 rfl _ L.length (flat WO L) (by rfl) XE.head _ 1 _ (by rfl) Yu (by have := WE.out; unfold maxLen; omega) (by have := WE.out; omega) (Nat.zero_le _) ?_
   intro v' w5 Z9 Zr hat
   have Zb : w5.ownsRow 0 67 2 v' (L.length + 1) (flat WO (L ++ [(⟨y1, y2⟩ : Wn)])) := by rw [Z7]; exact Z9
   obtain ⟨A10, c10, rfl⟩ := ZW Zb
   have Zo := XE.grown Zr Zb (by simpa using hat)
   try clear ZL
   refine hK.out _ _ (YV.out _ _ (by simp) Zo) (fun ZL => ?_)
   clear hK K
   try go_frame
   refine wt 13 14 rfl (by kernel_rfl) (fun _ _ _ h => h) rfl ‹_› (by intro w h;go_simp;try with_reducible rfl) ?_
   try go_frame
   have HS6 := VL (show St I (row 67 2 (.slice A10 (L.length + 1) c10) (L.length + 1) (flat WO (L ++ [(⟨y1, y2⟩ : Wn)])) :: bk q6 56 #[.int .i64 8, .int .u32 x1, .int .u32 x2, .int .u64 0, .int .u32 0, .int .u32 0, .int .u32 0, .slice none 0 0, .string ⟨#[]⟩, .slice none 0 0, .slice none 0 0, .int .u16 0, .int .u32 0, .int .u8 0, .slice none 0 0, .slice A10 (L.length + 1) c10] :: bk q2 56 Z56 :: M) (w5.setCell ⟨q6, 15, none⟩ (.slice A10 (L.length + 1) c10)) from ((Zo.ZQ.set 15 (.slice A10 (L.length + 1) c10)).ZQ))
   obtain ⟨hp, fp, lp⟩ := ZO.all (Zo.at 1 rfl)
   refine Yi (i := 14) (o := _) (by kernel_rfl) rfl (by kernel_rfl) (by kernel_rfl) (fun K hK => ?_)
   go_simp
   try clear ZL
   refine hK.out _ _ ?_
   clear hK K
   try go_frame
   clear Zo Z9 Zb Zr hat Yu XE YM hp fp lp
   go_wp2
   go_roundw
   case rel =>
    refine ⟨i + 8, L ++ [(⟨y1, y2⟩ : Wn)], A10, c10, by go_num, by omega, VL ⟨by rw [List.length_append]; exact HS6.out, ?_, ?_, ?_⟩⟩
    ·have h1 := YZ.out.1
     rw [List.length_append, List.length_singleton]
     omega
    ·intro x hx
     rcases List.mem_append.1 hx with hx | hx
     ·exact YZ.out.2.1 x hx
     rw [List.mem_singleton.1 hx]
     exact ⟨⟨y1a, y1b⟩, ⟨y2a, y2b⟩⟩
    intro p hp
    obtain ⟨t, h1, h2⟩ := YZ.out.2.2 p hp
    have h3 := congrArg (fun r : RS => r.1.length) h2
    simp only [List.length_drop] at h3
    obtain ⟨y, t', rfl, hby⟩ := Xx (f := XU) (l := t) (by have := HN.out; omega)
    rw [hby] at h2
    have hyr := (HT.out p hp).2.1.ZB y (by rw [h1]; simp)
    have g1 : Rd4 (bs.drop i, false) y1 (bs.drop (i + 4), false) := by rw [Hy1.out]; exact Xn (by rw [<- HN.out]; omega)
    have g2 : Rd1 (bs.drop (i + 4), false) y2 (bs.drop (i + 5), false) := by rw [Hy2.out]; exact rdA1 (by rw [<- HN.out]; omega)
    obtain ⟨he, h5⟩ := rdWn hyr h2 g1 g2
    have g3 := cut_at (bs := bs) (i := i + 5) (k := 3) (by rw [<- HN.out]; omega)
    exact ⟨t', by rw [h1, he]; simp, by rw [<- h5, show (3 : Int) = ((3 : Nat) : Int) from rfl, g3]⟩
   case measure => simp [intOf]; omega
  have VK : ¬ (i : Int) + 8 <= (n : Int) := by omega
  have HE := VL (show ∀ p, T p -> p.ZB = L from fun p hp => by
   obtain ⟨t, h1, h2⟩ := YZ.out.2.2 p hp
   have h3 := congrArg (fun r : RS => r.1.length) h2
   simp only [List.length_drop] at h3
   have h4 : t = [] := fm_less (f := XU) Wm (by have := HN.out; omega)
   rw [h1, h4, List.append_nil])
  have hcap := (Yh (show World.ownsRow _ 0 67 2 (.slice A L.length cA) L.length _ from HS.out.at 0 rfl)).2
  obtain ⟨J2, Zd, hs7, hcl⟩ := HS.out.ZR
  clear HS
  have HS := VL hs7
  have HCC := VL (And.intro hcap (And.intro Zd hcl))
  clear hs7 hcap Zd hcl
  go_upto_region 78 with fail
  have HCC2 := HCC
  have hb : ZO _ q6 56 _ := HS.out.at 0 rfl
  have hb2 : ZO _ q2 56 _ := HS.out.at 1 rfl
  have hone : (#[.int .i64 8, .int .u32 x1, .int .u32 x2, .int .u64 0, .int .u32 0, .int .u32 0, .int .u32 0, .slice none 0 0, .string ⟨#[]⟩, .slice none 0 0, .slice none 0 0, .int .u16 0, .int .u32 0, .int .u8 0, .slice none 0 0, .slice A L.length cA] : Array Value).all (·.oneCell') = true := by kernel_rfl
  have HS6 := VL (HS.out.YS #[.int .i64 8, .int .u32 x1, .int .u32 x2, .int .u64 0, .int .u32 0, .int .u32 0, .int .u32 0, .slice none 0 0, .string ⟨#[]⟩, .slice none 0 0, .slice none 0 0, .int .u16 0, .int .u32 0, .int .u8 0, .slice none 0 0, .slice A L.length cA])
  clear HS
  go_wp2_with (first | refine wpList_load_row rfl 56 (.tmp 6) rfl q6 rfl 56 _ (0, 0) _ hb hd rfl Zn ?_ | refine wpList_store_row rfl 56 (.tmp 2) (.tmp _) rfl q2 #[.int .i64 8, .int .u32 x1, .int .u32 x2, .int .u64 0, .int .u32 0, .int .u32 0, .int .u32 0, .slice none 0 0, .string ⟨#[]⟩, .slice none 0 0, .slice none 0 0, .int .u16 0, .int .u32 0, .int .u8 0, .slice none 0 0, .slice A L.length cA] rfl rfl 56 _ hb2 Zn rfl hone ?_)
  refine bodyPost_ret (Zp (p := 2) (u := 3) Try.results23 _ _ q2 56 _ (0, 0) _ rfl (HS6.out.at 1 rfl) hd rfl Zn) rfl ?_
  refine ⟨J2, ⟨8, x1, x2, 0, 0, 0, 0, [], ⟨#[]⟩, [], [], 0, 0, 0, [], L⟩, ⟨YA, YA, YA, YA, .slice A L.length cA⟩, true, rfl, HCC.out.2.1, HS6.out.drop.drop, by obtain ⟨hcap, _, hcl⟩ := HCC.out; exact ⟨Y4.nil J2 _, Y4.nil J2 _, Y4.nil J2 _, Y4.nil J2 _, ⟨A, cA, rfl, hcl, hcap⟩⟩, X5 ⟨x1a, x1b⟩ ⟨x2a, x2b⟩ (by simp) (by simp) (by simp) (by simp) (by simp) (by simp) (by simp) (by simp) (by simp) (by simp) YZ.out.2.1 (Nat.zero_le _) (Nat.zero_le _) (Nat.zero_le _) (Nat.zero_le _) (by have := YZ.out.1; simp only []; omega) (Nat.zero_le _), fun p hp => ?_⟩
  refine ⟨rfl, ?_⟩
  have h5 := (HF.out p hp).1
  rw [HE.out p hp] at h5
  exact h5
set_option maxRecDepth 100000 in
set_option maxHeartbeats 20000000 in
theorem refb (I : Zh) (M : List Zt) (w : World) (g o c : Nat) (bs : List UInt8) (T : Pk -> Prop) (hB : Zq I (some ⟨g, o, none⟩) bs) (hc : bs.length <= c) (h4 : 4 <= bs.length) (_hm : bs.length <= 262144) (hT : ∀ p, T p -> Good p /\ Y6 p /\ bs = ZV p) (kb : Int) (lw : Int) (hkb : Yl bs 1 1 = kb) (hlw : Yl bs 0 1 % 32 = lw) (h8 : bs.length < 8) (n203 : kb ≠ 203) (ZX : St I M w) :
  Calls Try.prog 23 #[.slice (some ⟨g, o, none⟩) bs.length c] w (WF I M T) := by
 obtain ⟨q2, y0, n, fs, hq2, HT, HB, ZY, hy0, hy1, hand, hlr0, hlr1, hkr0, hkr1, HKB, hn, hd⟩ := Xa hB hc h4 hT hkb hlw ZX
 have HN := VL hn
 rw [<- hn] at hc h4 _hm ⊢
 rw [<- hn] at h8
 clear ZX hT hB hkb hlw hn
 go_enter Try.func23, Try.ntmps23
 go_upto_region 1 with fail
 rw [<- hq2]
 clear hq2
 generalize World.alloc w _ = W at ZY hy0 hy1 ⊢
 go_quiet (fail)
 rename_i nq
 have YN := ZY.drewN nq
 clear ZY hy0 hy1 hand
 generalize W.drewN nq = W1 at YN ⊢
 obtain ⟨q6, hq6⟩ : ∃ q, q = W1.heap.size := ⟨_, rfl⟩
 have Zf := YN.alloc 56 #[.int .i64 0, .int .u32 0, .int .u32 0, .int .u64 0, .int .u32 0, .int .u32 0, .int .u32 0, .slice none 0 0, .string ⟨#[]⟩, .slice none 0 0, .slice none 0 0, .int .u16 0, .int .u32 0, .int .u8 0, .slice none 0 0, .slice none 0 0]
 rw [<- hq6] at Zf
 clear YN
 go_upto_region 3 with fail
 rw [<- hq6]
 clear hq6
 generalize World.alloc W1 _ = W2 at Zf ⊢
 have HS := VL Zf
 clear Zf
 obtain ⟨hcA, hfA, hlA⟩ := ZO.all (HS.out.at 0 rfl)
 have e3 : (kb == 203) = false := by rw [beq_eq_false_iff_ne]; exact n203
 have HNO := VL (show True from trivial)
 have Hn203 := VL n203
 clear n203
 have hb : ZO W2 q6 56 _ := HS.out.at 0 rfl
 have hb2 : ZO W2 q2 56 _ := HS.out.at 1 rfl
 have hone : (#[.int .i64 0, .int .u32 0, .int .u32 0, .int .u64 0, .int .u32 0, .int .u32 0, .int .u32 0, .slice none 0 0, .string ⟨#[]⟩, .slice none 0 0, .slice none 0 0, .int .u16 0, .int .u32 0, .int .u8 0, .slice none 0 0, .slice none 0 0] : Array Value).all (·.oneCell') = true := by kernel_rfl
 have HS6 := VL (HS.out.YS #[.int .i64 0, .int .u32 0, .int .u32 0, .int .u64 0, .int .u32 0, .int .u32 0, .int .u32 0, .slice none 0 0, .string ⟨#[]⟩, .slice none 0 0, .slice none 0 0, .int .u16 0, .int .u32 0, .int .u8 0, .slice none 0 0, .slice none 0 0])
 clear HS
 go_wp2_with (first | refine wpList_load_row rfl 56 (.tmp 6) rfl q6 rfl 56 _ (0, 0) _ hb hd rfl Zn ?_ | refine wpList_store_row rfl 56 (.tmp 2) (.tmp _) rfl q2 #[.int .i64 0, .int .u32 0, .int .u32 0, .int .u64 0, .int .u32 0, .int .u32 0, .int .u32 0, .slice none 0 0, .string ⟨#[]⟩, .slice none 0 0, .slice none 0 0, .int .u16 0, .int .u32 0, .int .u8 0, .slice none 0 0, .slice none 0 0] rfl rfl 56 _ hb2 Zn rfl hone ?_)
 refine bodyPost_ret (Zp (p := 2) (u := 3) Try.results23 _ _ q2 56 _ (0, 0) _ rfl (HS6.out.at 1 rfl) hd rfl Zn) rfl ?_
 refine ⟨I, ⟨0, 0, 0, 0, 0, 0, 0, [], ⟨#[]⟩, [], [], 0, 0, 0, [], []⟩, VH, false, rfl, .refl I, HS6.out.drop.drop, Xc I 0 0 0, XO 0 0 0 (by decide) (by decide), fun p hp => ?_⟩
 exfalso
 obtain ⟨hg, hok, hbs⟩ := HT.out p hp
 obtain ⟨k1, k8, _⟩ := Y5 hg hbs
 have hkk := XF hg hbs HKB.out.1 HKB.out.2
 have hll := WJ hg hbs
 rw [<- HN.out] at hll
 have n203 := Hn203.out
 omega
set_option maxRecDepth 100000 in
set_option maxHeartbeats 20000000 in
theorem reff200 (I : Zh) (M : List Zt) (w : World) (g o c : Nat) (bs : List UInt8) (T : Pk -> Prop) (hB : Zq I (some ⟨g, o, none⟩) bs) (hc : bs.length <= c) (h4 : 4 <= bs.length) (_hm : bs.length <= 262144) (hT : ∀ p, T p -> Good p /\ Y6 p /\ bs = ZV p) (lw : Int) (hkb : Yl bs 1 1 = 200) (hlw : Yl bs 0 1 % 32 = lw) (h8 : 8 <= bs.length) (h12 : bs.length < 12) (ZX : St I M w) :
  Calls Try.prog 23 #[.slice (some ⟨g, o, none⟩) bs.length c] w (WF I M T) := by
 obtain ⟨q2, y0, n, fs, hq2, HT, HB, ZY, hy0, hy1, hand, hlr0, hlr1, hkr0, hkr1, HKB, hn, hd⟩ := Xa hB hc h4 hT hkb hlw ZX
 have HN := VL hn
 rw [<- hn] at hc h4 _hm ⊢
 rw [<- hn] at h8 h12
 clear ZX hT hB hkb hlw hn
 go_enter Try.func23, Try.ntmps23
 go_upto_region 1 with fail
 rw [<- hq2]
 clear hq2
 generalize World.alloc w _ = W at ZY hy0 hy1 ⊢
 go_quiet (fail)
 rename_i nq
 have YN := ZY.drewN nq
 clear ZY hy0 hy1 hand
 generalize W.drewN nq = W1 at YN ⊢
 obtain ⟨q6, hq6⟩ : ∃ q, q = W1.heap.size := ⟨_, rfl⟩
 have Zf := YN.alloc 56 #[.int .i64 0, .int .u32 0, .int .u32 0, .int .u64 0, .int .u32 0, .int .u32 0, .int .u32 0, .slice none 0 0, .string ⟨#[]⟩, .slice none 0 0, .slice none 0 0, .int .u16 0, .int .u32 0, .int .u8 0, .slice none 0 0, .slice none 0 0]
 rw [<- hq6] at Zf
 clear YN
 go_upto_region 3 with fail
 rw [<- hq6]
 clear hq6
 generalize World.alloc W1 _ = W2 at Zf ⊢
 have HS := VL Zf
 clear Zf
 obtain ⟨hcA, hfA, hlA⟩ := ZO.all (HS.out.at 0 rfl)
 have HNO := VL (show True from trivial)
 have HC := XT I _ _ g o c bs (4) (HB.out) (by rw [<- HN.out]; exact hc) (by rw [<- HN.out]; omega) (by rw [<- HN.out]; omega) HS.out
 rw [<- HN.out] at HC
 obtain ⟨x1, hx⟩ : ∃ z, z = Yl bs (4) 4 := ⟨_, rfl⟩
 have hr := Ym bs (4)
 rw [<- hx] at HC hr
 obtain ⟨x1a, x1b⟩ := hr
 have HC := VL HC
 have Hx1 := VL hx
 clear hx
 go_wp2_with fail
 go_at_call 56
 refine HC.out.mono ?_
 clear HC
 rintro e w9 ⟨rfl, hw⟩
 subst hw
 have Zv := (HS.out.set 1 (.int .u32 x1))
 go_upto_region 28 with fail
 generalize World.setCell W2 _ _ = W3 at Zv ⊢
 clear HS hcA hfA hlA
 have HS := VL Zv
 clear Zv
 have hb : ZO W3 q6 56 _ := HS.out.at 0 rfl
 have hb2 : ZO W3 q2 56 _ := HS.out.at 1 rfl
 have hone : (#[.int .i64 0, .int .u32 x1, .int .u32 0, .int .u64 0, .int .u32 0, .int .u32 0, .int .u32 0, .slice none 0 0, .string ⟨#[]⟩, .slice none 0 0, .slice none 0 0, .int .u16 0, .int .u32 0, .int .u8 0, .slice none 0 0, .slice none 0 0] : Array Value).all (·.oneCell') = true := by kernel_rfl
 have HS6 := VL (HS.out.YS #[.int .i64 0, .int .u32 x1, .int .u32 0, .int .u64 0, .int .u32 0, .int .u32 0, .int .u32 0, .slice none 0 0, .string ⟨#[]⟩, .slice none 0 0, .slice none 0 0, .int .u16 0, .int .u32 0, .int .u8 0, .slice none 0 0, .slice none 0 0])
 clear HS
 go_wp2_with (first | refine wpList_load_row rfl 56 (.tmp 6) rfl q6 rfl 56 _ (0, 0) _ hb hd rfl Zn ?_ | refine wpList_store_row rfl 56 (.tmp 2) (.tmp _) rfl q2 #[.int .i64 0, .int .u32 x1, .int .u32 0, .int .u64 0, .int .u32 0, .int .u32 0, .int .u32 0, .slice none 0 0, .string ⟨#[]⟩, .slice none 0 0, .slice none 0 0, .int .u16 0, .int .u32 0, .int .u8 0, .slice none 0 0, .slice none 0 0] rfl rfl 56 _ hb2 Zn rfl hone ?_)
 refine bodyPost_ret (Zp (p := 2) (u := 3) Try.results23 _ _ q2 56 _ (0, 0) _ rfl (HS6.out.at 1 rfl) hd rfl Zn) rfl ?_
 refine ⟨I, ⟨0, x1, 0, 0, 0, 0, 0, [], ⟨#[]⟩, [], [], 0, 0, 0, [], []⟩, VH, false, rfl, .refl I, HS6.out.drop.drop, Xc I 0 x1 0, XO 0 x1 0 ⟨x1a, x1b⟩ (by decide), fun p hp => ?_⟩
 exfalso
 obtain ⟨hg, hok, hbs⟩ := HT.out p hp
 obtain ⟨k1, k8, _⟩ := Y5 hg hbs
 have hkk := XF hg hbs HKB.out.1 HKB.out.2
 have hll := WJ hg hbs
 rw [<- HN.out] at hll
 
 omega
set_option maxRecDepth 100000 in
set_option maxHeartbeats 20000000 in
theorem reff202 (I : Zh) (M : List Zt) (w : World) (g o c : Nat) (bs : List UInt8) (T : Pk -> Prop) (hB : Zq I (some ⟨g, o, none⟩) bs) (hc : bs.length <= c) (h4 : 4 <= bs.length) (_hm : bs.length <= 262144) (hT : ∀ p, T p -> Good p /\ Y6 p /\ bs = ZV p) (lw : Int) (hkb : Yl bs 1 1 = 202) (hlw : Yl bs 0 1 % 32 = lw) (h8 : 8 <= bs.length) (h12 : bs.length < 12) (ZX : St I M w) :
  Calls Try.prog 23 #[.slice (some ⟨g, o, none⟩) bs.length c] w (WF I M T) := by
 obtain ⟨q2, y0, n, fs, hq2, HT, HB, ZY, hy0, hy1, hand, hlr0, hlr1, hkr0, hkr1, HKB, hn, hd⟩ := Xa hB hc h4 hT hkb hlw ZX
 have HN := VL hn
 rw [<- hn] at hc h4 _hm ⊢
 rw [<- hn] at h8 h12
 clear ZX hT hB hkb hlw hn
 go_enter Try.func23, Try.ntmps23
 go_upto_region 1 with fail
 rw [<- hq2]
 clear hq2
 generalize World.alloc w _ = W at ZY hy0 hy1 ⊢
 go_quiet (fail)
 rename_i nq
 have YN := ZY.drewN nq
 clear ZY hy0 hy1 hand
 generalize W.drewN nq = W1 at YN ⊢
 obtain ⟨q6, hq6⟩ : ∃ q, q = W1.heap.size := ⟨_, rfl⟩
 have Zf := YN.alloc 56 #[.int .i64 0, .int .u32 0, .int .u32 0, .int .u64 0, .int .u32 0, .int .u32 0, .int .u32 0, .slice none 0 0, .string ⟨#[]⟩, .slice none 0 0, .slice none 0 0, .int .u16 0, .int .u32 0, .int .u8 0, .slice none 0 0, .slice none 0 0]
 rw [<- hq6] at Zf
 clear YN
 go_upto_region 3 with fail
 rw [<- hq6]
 clear hq6
 generalize World.alloc W1 _ = W2 at Zf ⊢
 have HS := VL Zf
 clear Zf
 obtain ⟨hcA, hfA, hlA⟩ := ZO.all (HS.out.at 0 rfl)
 have HNO := VL (show True from trivial)
 have HC := XT I _ _ g o c bs (4) (HB.out) (by rw [<- HN.out]; exact hc) (by rw [<- HN.out]; omega) (by rw [<- HN.out]; omega) HS.out
 rw [<- HN.out] at HC
 obtain ⟨x1, hx⟩ : ∃ z, z = Yl bs (4) 4 := ⟨_, rfl⟩
 have hr := Ym bs (4)
 rw [<- hx] at HC hr
 obtain ⟨x1a, x1b⟩ := hr
 have HC := VL HC
 have Hx1 := VL hx
 clear hx
 go_wp2_with fail
 go_at_call 56
 refine HC.out.mono ?_
 clear HC
 rintro e w9 ⟨rfl, hw⟩
 subst hw
 have Zv := (HS.out.set 1 (.int .u32 x1))
 go_upto_region 28 with fail
 generalize World.setCell W2 _ _ = W3 at Zv ⊢
 clear HS hcA hfA hlA
 have HS := VL Zv
 clear Zv
 have hb : ZO W3 q6 56 _ := HS.out.at 0 rfl
 have hb2 : ZO W3 q2 56 _ := HS.out.at 1 rfl
 have hone : (#[.int .i64 0, .int .u32 x1, .int .u32 0, .int .u64 0, .int .u32 0, .int .u32 0, .int .u32 0, .slice none 0 0, .string ⟨#[]⟩, .slice none 0 0, .slice none 0 0, .int .u16 0, .int .u32 0, .int .u8 0, .slice none 0 0, .slice none 0 0] : Array Value).all (·.oneCell') = true := by kernel_rfl
 have HS6 := VL (HS.out.YS #[.int .i64 0, .int .u32 x1, .int .u32 0, .int .u64 0, .int .u32 0, .int .u32 0, .int .u32 0, .slice none 0 0, .string ⟨#[]⟩, .slice none 0 0, .slice none 0 0, .int .u16 0, .int .u32 0, .int .u8 0, .slice none 0 0, .slice none 0 0])
 clear HS
 go_wp2_with (first | refine wpList_load_row rfl 56 (.tmp 6) rfl q6 rfl 56 _ (0, 0) _ hb hd rfl Zn ?_ | refine wpList_store_row rfl 56 (.tmp 2) (.tmp _) rfl q2 #[.int .i64 0, .int .u32 x1, .int .u32 0, .int .u64 0, .int .u32 0, .int .u32 0, .int .u32 0, .slice none 0 0, .string ⟨#[]⟩, .slice none 0 0, .slice none 0 0, .int .u16 0, .int .u32 0, .int .u8 0, .slice none 0 0, .slice none 0 0] rfl rfl 56 _ hb2 Zn rfl hone ?_)
 refine bodyPost_ret (Zp (p := 2) (u := 3) Try.results23 _ _ q2 56 _ (0, 0) _ rfl (HS6.out.at 1 rfl) hd rfl Zn) rfl ?_
 refine ⟨I, ⟨0, x1, 0, 0, 0, 0, 0, [], ⟨#[]⟩, [], [], 0, 0, 0, [], []⟩, VH, false, rfl, .refl I, HS6.out.drop.drop, Xc I 0 x1 0, XO 0 x1 0 ⟨x1a, x1b⟩ (by decide), fun p hp => ?_⟩
 exfalso
 obtain ⟨hg, hok, hbs⟩ := HT.out p hp
 obtain ⟨k1, k8, _⟩ := Y5 hg hbs
 have hkk := XF hg hbs HKB.out.1 HKB.out.2
 have hll := WJ hg hbs
 rw [<- HN.out] at hll
 
 omega
set_option maxRecDepth 100000 in
set_option maxHeartbeats 20000000 in
theorem reffx (I : Zh) (M : List Zt) (w : World) (g o c : Nat) (bs : List UInt8) (T : Pk -> Prop) (hB : Zq I (some ⟨g, o, none⟩) bs) (hc : bs.length <= c) (h4 : 4 <= bs.length) (_hm : bs.length <= 262144) (hT : ∀ p, T p -> Good p /\ Y6 p /\ bs = ZV p) (kb : Int) (lw : Int) (hkb : Yl bs 1 1 = kb) (hlw : Yl bs 0 1 % 32 = lw) (h8 : 8 <= bs.length) (h12 : bs.length < 12) (n200 : kb ≠ 200) (n201 : kb ≠ 201) (n202 : kb ≠ 202) (n203 : kb ≠ 203) (ZX : St I M w) :
  Calls Try.prog 23 #[.slice (some ⟨g, o, none⟩) bs.length c] w (WF I M T) := by
 obtain ⟨q2, y0, n, fs, hq2, HT, HB, ZY, hy0, hy1, hand, hlr0, hlr1, hkr0, hkr1, HKB, hn, hd⟩ := Xa hB hc h4 hT hkb hlw ZX
 have HN := VL hn
 rw [<- hn] at hc h4 _hm ⊢
 rw [<- hn] at h8 h12
 clear ZX hT hB hkb hlw hn
 go_enter Try.func23, Try.ntmps23
 go_upto_region 1 with fail
 rw [<- hq2]
 clear hq2
 generalize World.alloc w _ = W at ZY hy0 hy1 ⊢
 go_quiet (fail)
 rename_i nq
 have YN := ZY.drewN nq
 clear ZY hy0 hy1 hand
 generalize W.drewN nq = W1 at YN ⊢
 obtain ⟨q6, hq6⟩ : ∃ q, q = W1.heap.size := ⟨_, rfl⟩
 have Zf := YN.alloc 56 #[.int .i64 0, .int .u32 0, .int .u32 0, .int .u64 0, .int .u32 0, .int .u32 0, .int .u32 0, .slice none 0 0, .string ⟨#[]⟩, .slice none 0 0, .slice none 0 0, .int .u16 0, .int .u32 0, .int .u8 0, .slice none 0 0, .slice none 0 0]
 rw [<- hq6] at Zf
 clear YN
 go_upto_region 3 with fail
 rw [<- hq6]
 clear hq6
 generalize World.alloc W1 _ = W2 at Zf ⊢
 have HS := VL Zf
 clear Zf
 obtain ⟨hcA, hfA, hlA⟩ := ZO.all (HS.out.at 0 rfl)
 have e0 : (kb == 200) = false := by rw [beq_eq_false_iff_ne]; exact n200
 have e1 : (kb == 201) = false := by rw [beq_eq_false_iff_ne]; exact n201
 have e2 : (kb == 202) = false := by rw [beq_eq_false_iff_ne]; exact n202
 have e3 : (kb == 203) = false := by rw [beq_eq_false_iff_ne]; exact n203
 have HNO := VL (show True from trivial)
 have Hn200 := VL n200
 have Hn201 := VL n201
 have Hn202 := VL n202
 have Hn203 := VL n203
 clear n200 n201 n202 n203
 have HC := XT I _ _ g o c bs (4) (HB.out) (by rw [<- HN.out]; exact hc) (by rw [<- HN.out]; omega) (by rw [<- HN.out]; omega) HS.out
 rw [<- HN.out] at HC
 obtain ⟨x1, hx⟩ : ∃ z, z = Yl bs (4) 4 := ⟨_, rfl⟩
 have hr := Ym bs (4)
 rw [<- hx] at HC hr
 obtain ⟨x1a, x1b⟩ := hr
 have HC := VL HC
 have Hx1 := VL hx
 clear hx
 go_wp2_with fail
 go_at_call 56
 refine HC.out.mono ?_
 clear HC
 rintro e w9 ⟨rfl, hw⟩
 subst hw
 have Zv := (HS.out.set 1 (.int .u32 x1))
 go_upto_region 28 with fail
 generalize World.setCell W2 _ _ = W3 at Zv ⊢
 clear HS hcA hfA hlA
 have HS := VL Zv
 clear Zv
 have hb : ZO W3 q6 56 _ := HS.out.at 0 rfl
 have hb2 : ZO W3 q2 56 _ := HS.out.at 1 rfl
 have hone : (#[.int .i64 0, .int .u32 x1, .int .u32 0, .int .u64 0, .int .u32 0, .int .u32 0, .int .u32 0, .slice none 0 0, .string ⟨#[]⟩, .slice none 0 0, .slice none 0 0, .int .u16 0, .int .u32 0, .int .u8 0, .slice none 0 0, .slice none 0 0] : Array Value).all (·.oneCell') = true := by kernel_rfl
 have HS6 := VL (HS.out.YS #[.int .i64 0, .int .u32 x1, .int .u32 0, .int .u64 0, .int .u32 0, .int .u32 0, .int .u32 0, .slice none 0 0, .string ⟨#[]⟩, .slice none 0 0, .slice none 0 0, .int .u16 0, .int .u32 0, .int .u8 0, .slice none 0 0, .slice none 0 0])
 clear HS
 go_wp2_with (first | refine wpList_load_row rfl 56 (.tmp 6) rfl q6 rfl 56 _ (0, 0) _ hb hd rfl Zn ?_ | refine wpList_store_row rfl 56 (.tmp 2) (.tmp _) rfl q2 #[.int .i64 0, .int .u32 x1, .int .u32 0, .int .u64 0, .int .u32 0, .int .u32 0, .int .u32 0, .slice none 0 0, .string ⟨#[]⟩, .slice none 0 0, .slice none 0 0, .int .u16 0, .int .u32 0, .int .u8 0, .slice none 0 0, .slice none 0 0] rfl rfl 56 _ hb2 Zn rfl hone ?_)
 refine bodyPost_ret (Zp (p := 2) (u := 3) Try.results23 _ _ q2 56 _ (0, 0) _ rfl (HS6.out.at 1 rfl) hd rfl Zn) rfl ?_
 refine ⟨I, ⟨0, x1, 0, 0, 0, 0, 0, [], ⟨#[]⟩, [], [], 0, 0, 0, [], []⟩, VH, false, rfl, .refl I, HS6.out.drop.drop, Xc I 0 x1 0, XO 0 x1 0 ⟨x1a, x1b⟩ (by decide), fun p hp => ?_⟩
 exfalso
 obtain ⟨hg, hok, hbs⟩ := HT.out p hp
 obtain ⟨k1, k8, _⟩ := Y5 hg hbs
 have hkk := XF hg hbs HKB.out.1 HKB.out.2
 have hll := WJ hg hbs
 rw [<- HN.out] at hll
 have n200 := Hn200.out
 have n201 := Hn201.out
 have n202 := Hn202.out
 have n203 := Hn203.out
 omega
end Go.Proofs.Ytddopbbmgpnjjaa
