/- part. -/
import Derived.Test.YtddopbbmgpnjjaaZT20
namespace Go.Proofs.Ytddopbbmgpnjjaa
set_option linter.unusedSimpArgs false
open Go.RowKit
set_option maxRecDepth 100000 in
set_option maxHeartbeats 20000000 in
theorem read2 (J0 : Zh) (M : List Zt) (w : World) (f s : Int) (p9 : Nat) (r : RS) (b : Zt) (T : Pk -> Prop) (hT : ∀ p, T p -> Good p /\ Y6 p /\ p.kind = 2 /\ r = (YH (Zu p), false)) (hk : XR f s = 2) (hf : 0 <= f /\ f <= 255) (hl : r.1.length <= 2000) (ZX : St J0 (b :: M) w) (hR : Rdr J0 p9 r b) :
  Calls Try.prog 30 #[.int .u8 f, .int .u8 s, .pointer (some ⟨p9, 0, none⟩)] w (RdOk J0 M T) := by
 have HT := VL hT
 have HK := kindC f s (w.alloc (.cells #[.int .i64 0, .int .u32 0, .int .u32 0, .int .u64 0, .int .u32 0, .int .u32 0, .int .u32 0, .slice none 0 0, .string ⟨#[]⟩, .slice none 0 0, .slice none 0 0, .int .u16 0, .int .u32 0, .int .u8 0, .slice none 0 0, .slice none 0 0] 51)) hf
 rw [hk] at HK
 have HK := VL HK
 have HR := VL hR
 have ZY := (ZX.alloc 51 #[.int .i64 0, .int .u32 0, .int .u32 0, .int .u64 0, .int .u32 0, .int .u32 0, .int .u32 0, .slice none 0 0, .string ⟨#[]⟩, .slice none 0 0, .slice none 0 0, .int .u16 0, .int .u32 0, .int .u8 0, .slice none 0 0, .slice none 0 0]).ZQ
 obtain ⟨q, hq⟩ : ∃ q, q = w.heap.size := ⟨_, rfl⟩
 rw [<- hq] at ZY
 have HL := VL hl
 clear hT hk hR ZX hl
 obtain ⟨fs, hd⟩ := st51D
 go_enter Try.func30, Try.ntmps30
 go_upto_region 1 with fail
 rw [<- hq]
 clear hq
 generalize World.alloc w _ = W at ZY HK ⊢
 have HS := VL ZY
 clear ZY
 obtain ⟨hcA, hfA, hlA⟩ := ZO.all (HS.out.at 1 rfl)
 go_wp2_with fail
 go_at_call 61
 refine HK.out.mono ?_
 clear HK
 rintro e w0 ⟨rfl, hw⟩
 subst hw
 have hs9 : St J0 (b :: bk q 51 #[.int .i64 2, .int .u32 0, .int .u32 0, .int .u64 0, .int .u32 0, .int .u32 0, .int .u32 0, .slice none 0 0, .string ⟨#[]⟩, .slice none 0 0, .slice none 0 0, .int .u16 0, .int .u32 0, .int .u8 0, .slice none 0 0, .slice none 0 0] :: M) ((W).setCell ⟨q, 0, none⟩ (.int .i64 2)) := (HS.out.ZQ.set 0 (.int .i64 2)).ZQ
 have HS := VL hs9
 clear hs9
 obtain ⟨hcB, hfB, hlB⟩ := ZO.all (HS.out.at 1 rfl)
 have HC := VL (Y1 (I := J0) p9 r b HS.out HR.out)
 go_wp2_with fail
 go_at_call 62
 refine HC.out.mono ?_
 clear HC HS HR hcA hfA hlA
 try clear hcB hfB hlB
 rintro e w1 ⟨_, _, _, rfl, _, hs, rfl, rfl, b, hR, rfl⟩
 obtain ⟨x1, hx⟩ : ∃ z, z = ((YP (Zl 4 r).1 : Nat) : Int) := ⟨_, rfl⟩
 obtain ⟨r1, hr⟩ : ∃ z, z = (Zl 4 r).2 := ⟨_, rfl⟩
 have Zw := YT 4 r 4 (by decide)
 rw [<- hx] at Zw ⊢
 rw [<- hr] at hR
 obtain ⟨x1a, x1b⟩ := Zw
 have HL := VL (show r1.1.length <= 2000 from (by rw [hr]; exact Nat.le_trans (Ze 4 r) HL.out))
 replace x1b : x1 <= 4294967295 := (by have h9 : ((256 ^ 4 : Nat) : Int) = 4294967296 := (by decide); omega)
 have HXx1 := VL (And.intro hx hr)
 have HS := VL hs
 have HR := VL hR
 clear hx hr hs hR
 obtain ⟨hcA, hfA, hlA⟩ := ZO.all (HS.out.at 1 rfl)
 have hs9 : St J0 (b :: bk q 51 #[.int .i64 2, .int .u32 x1, .int .u32 0, .int .u64 0, .int .u32 0, .int .u32 0, .int .u32 0, .slice none 0 0, .string ⟨#[]⟩, .slice none 0 0, .slice none 0 0, .int .u16 0, .int .u32 0, .int .u8 0, .slice none 0 0, .slice none 0 0] :: M) ((w1).setCell ⟨q, 1, none⟩ (.int .u32 x1)) := (HS.out.ZQ.set 1 (.int .u32 x1)).ZQ
 have HS := VL hs9
 clear hs9
 obtain ⟨hcB, hfB, hlB⟩ := ZO.all (HS.out.at 1 rfl)
 have HF := VL (show ∀ p, T p -> (⟨2, x1, 0, 0, 0, 0, 0, p.ZE, ⟨#[]⟩, [], [], 0, 0, 0, [], []⟩ : Pk) = p /\ r1 = (p.ZE.flatMap YK, false) from fun p hp => by
  obtain ⟨hg, hok, hk, hr⟩ := HT.out p hp
  obtain ⟨h1, h2⟩ := shape2 hg hk
  rw [h2] at hr
  obtain ⟨h3, h4⟩ := YY HXx1.out hok.ZA hr
  rw [h3, <- h1]
  exact ⟨rfl, h4⟩)
 go_upto_region 17 with fail
 generalize World.setCell _ _ _ = W2 at HS hcB hfB hlB ⊢
 have Yu := (HS.out.nil (e := 65) (size := 7)).up12
 clear HS
 have HS := VL Yu
 clear Yu
 try clear hcA hfA hlA
 clear hcB hfB hlB
 go_loopw [] (fun wr => ∃ (L : List Rp) (A : Option Addr) (c : Nat) (rL : RS) (b9 : Zt), Hid (St J0 (b9 :: bk q 51 #[.int .i64 2, .int .u32 x1, .int .u32 0, .int .u64 0, .int .u32 0, .int .u32 0, .int .u32 0, .slice A L.length c, .string ⟨#[]⟩, .slice none 0 0, .slice none 0 0, .int .u16 0, .int .u32 0, .int .u8 0, .slice none 0 0, .slice none 0 0] :: row 65 7 (.slice A L.length c) L.length (flat Yt L) :: M) wr /\ Rdr J0 p9 rL b9 /\ rL.1.length <= 2000 /\ L.length + 1 * mS rL <= 2001 /\ (∀ x ∈ L, RpRaw x) /\ ∀ p, T p -> ∃ t, p.ZE = L ++ t /\ rL = (t.flatMap YK, false))) (fun wr => rdM wr p9)
 case atStart => exact ⟨[], none, 0, r1, b, VL ⟨HS.out, HR.out, HL.out, by have := mS_lt HL.out; simp only [List.length_nil]; omega, by simp, fun p hp => ⟨p.ZE, rfl, (HF.out p hp).2⟩⟩⟩
 case round =>
  obtain ⟨L, A, c, rL, b, hh⟩ := hrel
  obtain ⟨hs, hR, hl9, hlen, Yf, ht⟩ := hh.out
  clear hh HS HR HL
  have HS := VL hs
  have HR := VL hR
  have HL := VL hl9
  have YZ := VL (And.intro hlen (And.intro Yf ht))
  clear hs hR hl9 hlen Yf ht
  obtain ⟨hcA, hfA, hlA⟩ := ZO.all (HS.out.at 1 rfl)
  have HLf := VL (Wi (I := J0) p9 rL b HS.out HR.out)
  have HBd := VL (WY (I := J0) p9 rL b HS.out HR.out)
  obtain ⟨ln, hln⟩ : ∃ n, n = rL.1.length := ⟨_, rfl⟩
  obtain ⟨bd, hbd⟩ : ∃ x, x = rL.2 := ⟨_, rfl⟩
  rw [<- hln] at HLf
  rw [<- hbd] at HBd
  have HLN := VL (And.intro hln hbd)
  clear hln hbd
  rcases Nat.eq_zero_or_pos ln with h0 | h0
  ·subst h0
   go_upto_region 41 with (go_at_call 25; refine HLf.out.mono ?_; rintro e w3 ⟨rfl, hw⟩; subst hw)
   have HE := VL (show ∀ p, T p -> p.ZE = L from fun p hp => by
    obtain ⟨t, h1, h2⟩ := YZ.out.2.2 p hp
    obtain ⟨h3, h4⟩ := HLN.out
    rw [h2] at h3
    rw [h1, VJ (fun x => by rw [Za]; decide) h3.symm, List.append_nil])
   have hb : ZO wr q 51 #[.int .i64 2, .int .u32 x1, .int .u32 0, .int .u64 0, .int .u32 0, .int .u32 0, .int .u32 0, .slice A L.length c, .string ⟨#[]⟩, .slice none 0 0, .slice none 0 0, .int .u16 0, .int .u32 0, .int .u8 0, .slice none 0 0, .slice none 0 0] := HS.out.at 1 rfl
   have hone : (#[.int .i64 2, .int .u32 x1, .int .u32 0, .int .u64 0, .int .u32 0, .int .u32 0, .int .u32 0, .slice A L.length c, .string ⟨#[]⟩, .slice none 0 0, .slice none 0 0, .int .u16 0, .int .u32 0, .int .u8 0, .slice none 0 0, .slice none 0 0] : Array Value).all (·.oneCell') = true := by kernel_rfl
   have HS6 := VL (HS.out.YS #[.int .i64 2, .int .u32 x1, .int .u32 0, .int .u64 0, .int .u32 0, .int .u32 0, .int .u32 0, .slice A L.length c, .string ⟨#[]⟩, .slice none 0 0, .slice none 0 0, .int .u16 0, .int .u32 0, .int .u8 0, .slice none 0 0, .slice none 0 0])
   go_wp2_with (first | refine wpList_load_row rfl 51 (.tmp 6) rfl q rfl 51 _ (0, 0) _ hb hd rfl Zx ?_ | refine wpList_store_row rfl 51 (.tmp 6) (.tmp _) rfl q #[.int .i64 2, .int .u32 x1, .int .u32 0, .int .u64 0, .int .u32 0, .int .u32 0, .int .u32 0, .slice A L.length c, .string ⟨#[]⟩, .slice none 0 0, .slice none 0 0, .int .u16 0, .int .u32 0, .int .u8 0, .slice none 0 0, .slice none 0 0] rfl rfl 51 _ hb Zx rfl hone ?_)
   refine bodyPost_ret (results_cell_row (p := 6) Try.results30 _ _ q 51 _ (0, 0) _ rfl (HS6.out.at 1 rfl) hd rfl Zx) rfl ?_
   have hcap := (Yh (show World.ownsRow _ 0 65 7 (.slice A L.length c) L.length _ from HS6.out.at 2 rfl)).2
   obtain ⟨J2, Zd, hs7, hcl⟩ := HS6.out.drop.drop.ZR
   refine ⟨J2, ⟨2, x1, 0, 0, 0, 0, 0, L, ⟨#[]⟩, [], [], 0, 0, 0, [], []⟩, ⟨.slice A L.length c, YA, YA, YA, YA⟩, rfl, Zd, hs7, ⟨⟨A, c, rfl, hcl, hcap⟩, Y4.nil J2 _, Y4.nil J2 _, Y4.nil J2 _, Y4.nil J2 _⟩, WA ⟨x1a, x1b⟩ (by simp) (by simp) (by simp) (by simp) (by simp) YZ.out.2.1 (by simp) (by simp) (by simp) (by simp) (by simp) (by simp) (by have := YZ.out.1; simp only []; omega) (Nat.zero_le _) (Nat.zero_le _) (Nat.zero_le _) (Nat.zero_le _) (Nat.zero_le _), .inl rfl, fun p hp => ?_⟩
   have h5 := (HF.out p hp).1
   rw [HE.out p hp] at h5
   exact h5
  have h0i : (0 : Int) < (ln : Int) := by omega
  cases bd
  ·skip
   have HPOS := VL (show 0 < rL.1.length from HLN.out.1 ▸ h0)
   have HM0 := VL (Wu HR.out HS.out)
   go_upto_region 22 with (first | (go_at_call 25; refine HLf.out.mono ?_; rintro e w3 ⟨rfl, hw⟩; subst hw) | (go_at_call 29; refine HBd.out.mono ?_; rintro e w3 ⟨rfl, hw⟩; subst hw))
   have HC := VL (Y1 (I := J0) p9 rL b HS.out HR.out)
   go_wp2_with fail
   go_at_call 62
   refine HC.out.mono ?_
   clear HC HS HR hcA hfA hlA
   try clear hcB hfB hlB
   rintro e w2 ⟨_, _, _, rfl, _, hs, rfl, rfl, b, hR, rfl⟩
   obtain ⟨y1, hx⟩ : ∃ z, z = ((YP (Zl 4 rL).1 : Nat) : Int) := ⟨_, rfl⟩
   obtain ⟨r2, hr⟩ : ∃ z, z = (Zl 4 rL).2 := ⟨_, rfl⟩
   have Zw := YT 4 rL 4 (by decide)
   rw [<- hx] at Zw ⊢
   rw [<- hr] at hR
   obtain ⟨y1a, y1b⟩ := Zw
   have HL := VL (show r2.1.length <= 2000 from (by rw [hr]; exact Nat.le_trans (Ze 4 rL) HL.out))
   replace y1b : y1 <= 4294967295 := (by have h9 : ((256 ^ 4 : Nat) : Int) = 4294967296 := (by decide); omega)
   have HXy1 := VL (And.intro hx hr)
   have HS := VL hs
   have HR := VL hR
   clear hx hr hs hR
   obtain ⟨hcA, hfA, hlA⟩ := ZO.all (HS.out.at 1 rfl)
   have ZY := (HS.out.alloc 65 #[.int .u32 y1, .int .u8 0, .int .u32 0, .int .u32 0, .int .u32 0, .int .u32 0, .int .u32 0]).ZQ
   obtain ⟨q8, hq8⟩ : ∃ q, q = w2.heap.size := ⟨_, rfl⟩
   rw [<- hq8] at ZY
   clear HS
   have HS := VL ZY
   clear ZY
   go_upto_region 23 with fail
   rw [<- hq8]
   clear hq8 hcA hfA hlA
   generalize World.alloc w2 _ = W3 at HS ⊢
   obtain ⟨hcA, hfA, hlA⟩ := ZO.all (HS.out.at 1 rfl)
   have HC := VL (Y1 (I := J0) p9 r2 b HS.out HR.out)
   go_wp2_with fail
   go_at_call 62
   refine HC.out.mono ?_
   clear HC HS HR hcA hfA hlA
   try clear hcB hfB hlB
   rintro e w3 ⟨_, _, _, rfl, _, hs, rfl, rfl, b, hR, rfl⟩
   obtain ⟨y2, hx⟩ : ∃ z, z = ((YP (Zl 4 r2).1 : Nat) : Int) := ⟨_, rfl⟩
   obtain ⟨r3, hr⟩ : ∃ z, z = (Zl 4 r2).2 := ⟨_, rfl⟩
   have Zw := YT 4 r2 4 (by decide)
   rw [<- hx] at Zw ⊢
   rw [<- hr] at hR
   obtain ⟨y2a, y2b⟩ := Zw
   have HL := VL (show r3.1.length <= 2000 from (by rw [hr]; exact Nat.le_trans (Ze 4 r2) HL.out))
   replace y2b : y2 <= 4294967295 := (by have h9 : ((256 ^ 4 : Nat) : Int) = 4294967296 := (by decide); omega)
   have HXy2 := VL (And.intro hx hr)
   have HS := VL hs
   have HR := VL hR
   clear hx hr hs hR
   obtain ⟨hcA, hfA, hlA⟩ := ZO.all (HS.out.at 1 rfl)
   have hand := and_24 y2a y2b
   have hdv0 : 0 <= y2 / 16777216 := by omega
   have hdv1 : y2 / 16777216 <= 255 := by omega
   go_upto_region 25 with fail
   have ZY := ((HS.out.ZQ.set 1 (.int .u8 (y2 / 16777216))).set 2 (.int .u32 (y2 % 16777216))).ZQ
   clear HS
   have HS := VL ZY
   clear ZY hcA hfA hlA hand
   generalize World.setCell (World.setCell _ _ _) _ _ = W4 at HS ⊢
   obtain ⟨hcA, hfA, hlA⟩ := ZO.all (HS.out.at 1 rfl)
   have HC := VL (Y1 (I := J0) p9 r3 b HS.out HR.out)
   go_wp2_with fail
   go_at_call 62
   refine HC.out.mono ?_
   clear HC HS HR hcA hfA hlA
   try clear hcB hfB hlB
   rintro e w4 ⟨_, _, _, rfl, _, hs, rfl, rfl, b, hR, rfl⟩
   obtain ⟨y3, hx⟩ : ∃ z, z = ((YP (Zl 4 r3).1 : Nat) : Int) := ⟨_, rfl⟩
   obtain ⟨r4, hr⟩ : ∃ z, z = (Zl 4 r3).2 := ⟨_, rfl⟩
   have Zw := YT 4 r3 4 (by decide)
   rw [<- hx] at Zw ⊢
   rw [<- hr] at hR
   obtain ⟨y3a, y3b⟩ := Zw
   have HL := VL (show r4.1.length <= 2000 from (by rw [hr]; exact Nat.le_trans (Ze 4 r3) HL.out))
   replace y3b : y3 <= 4294967295 := (by have h9 : ((256 ^ 4 : Nat) : Int) = 4294967296 := (by decide); omega)
   have HXy3 := VL (And.intro hx hr)
   have HS := VL hs
   have HR := VL hR
   clear hx hr hs hR
   obtain ⟨hcA, hfA, hlA⟩ := ZO.all (HS.out.at 1 rfl)
   have HC := VL (Y1 (I := J0) p9 r4 b HS.out HR.out)
   go_wp2_with fail
   go_at_call 62
   refine HC.out.mono ?_
   clear HC HS HR hcA hfA hlA
   try clear hcB hfB hlB
   rintro e w5 ⟨_, _, _, rfl, _, hs, rfl, rfl, b, hR, rfl⟩
   obtain ⟨y4, hx⟩ : ∃ z, z = ((YP (Zl 4 r4).1 : Nat) : Int) := ⟨_, rfl⟩
   obtain ⟨r5, hr⟩ : ∃ z, z = (Zl 4 r4).2 := ⟨_, rfl⟩
   have Zw := YT 4 r4 4 (by decide)
   rw [<- hx] at Zw ⊢
   rw [<- hr] at hR
   obtain ⟨y4a, y4b⟩ := Zw
   have HL := VL (show r5.1.length <= 2000 from (by rw [hr]; exact Nat.le_trans (Ze 4 r4) HL.out))
   replace y4b : y4 <= 4294967295 := (by have h9 : ((256 ^ 4 : Nat) : Int) = 4294967296 := (by decide); omega)
   have HXy4 := VL (And.intro hx hr)
   have HS := VL hs
   have HR := VL hR
   clear hx hr hs hR
   obtain ⟨hcA, hfA, hlA⟩ := ZO.all (HS.out.at 1 rfl)
   have HC := VL (Y1 (I := J0) p9 r5 b HS.out HR.out)
   go_wp2_with fail
   go_at_call 62
   refine HC.out.mono ?_
   clear HC HS HR hcA hfA hlA
   try clear hcB hfB hlB
   rintro e w6 ⟨_, _, _, rfl, _, hs, rfl, rfl, b, hR, rfl⟩
   obtain ⟨y5, hx⟩ : ∃ z, z = ((YP (Zl 4 r5).1 : Nat) : Int) := ⟨_, rfl⟩
   obtain ⟨r6, hr⟩ : ∃ z, z = (Zl 4 r5).2 := ⟨_, rfl⟩
   have Zw := YT 4 r5 4 (by decide)
   rw [<- hx] at Zw ⊢
   rw [<- hr] at hR
   obtain ⟨y5a, y5b⟩ := Zw
   have HL := VL (show r6.1.length <= 2000 from (by rw [hr]; exact Nat.le_trans (Ze 4 r5) HL.out))
   replace y5b : y5 <= 4294967295 := (by have h9 : ((256 ^ 4 : Nat) : Int) = 4294967296 := (by decide); omega)
   have HXy5 := VL (And.intro hx hr)
   have HS := VL hs
   have HR := VL hR
   clear hx hr hs hR
   obtain ⟨hcA, hfA, hlA⟩ := ZO.all (HS.out.at 1 rfl)
   have HC := VL (Y1 (I := J0) p9 r6 b HS.out HR.out)
   go_wp2_with fail
   go_at_call 62
   refine HC.out.mono ?_
   clear HC HS HR hcA hfA hlA
   try clear hcB hfB hlB
   rintro e w7 ⟨_, _, _, rfl, _, hs, rfl, rfl, b, hR, rfl⟩
   obtain ⟨y6, hx⟩ : ∃ z, z = ((YP (Zl 4 r6).1 : Nat) : Int) := ⟨_, rfl⟩
   obtain ⟨r7, hr⟩ : ∃ z, z = (Zl 4 r6).2 := ⟨_, rfl⟩
   have Zw := YT 4 r6 4 (by decide)
   rw [<- hx] at Zw ⊢
   rw [<- hr] at hR
   obtain ⟨y6a, y6b⟩ := Zw
   have HL := VL (show r7.1.length <= 2000 from (by rw [hr]; exact Nat.le_trans (Ze 4 r6) HL.out))
   replace y6b : y6 <= 4294967295 := (by have h9 : ((256 ^ 4 : Nat) : Int) = 4294967296 := (by decide); omega)
   have HXy6 := VL (And.intro hx hr)
   have HS := VL hs
   have HR := VL hR
   clear hx hr hs hR
   obtain ⟨hcA, hfA, hlA⟩ := ZO.all (HS.out.at 1 rfl)
   go_upto_region 26 with fail
   have ZY := (((((HS.out.ZQ.set 3 (.int .u32 y3)).set 4 (.int .u32 y4)).set 5 (.int .u32 y5)).set 6 (.int .u32 y6))).ZQ
   clear HS hcA hfA hlA
   generalize World.setCell (World.setCell _ _ _) _ _ = W5 at ZY ⊢
   have HST := VL (show St J0 (bk q8 65 #[.int .u32 y1, .int .u8 (y2 / 16777216), .int .u32 (y2 % 16777216), .int .u32 y3, .int .u32 y4, .int .u32 y5, .int .u32 y6] :: b :: bk q 51 #[.int .i64 2, .int .u32 x1, .int .u32 0, .int .u64 0, .int .u32 0, .int .u32 0, .int .u32 0, .slice A L.length c, .string ⟨#[]⟩, .slice none 0 0, .slice none 0 0, .int .u16 0, .int .u32 0, .int .u8 0, .slice none 0 0, .slice none 0 0] :: row 65 7 (.slice A L.length c) L.length (flat Yt L) :: M) W5 from ZY.ZQ)
   clear ZY
   obtain ⟨h8, f8, l8⟩ := ZO.all (HST.out.at 0 rfl)
   obtain ⟨hcq, hfq, hlq⟩ := ZO.all (HST.out.at 2 rfl)
   have Yu := HST.out.Yw (P := Try.prog) (t := 46) (e := 65) (cs := #[.int .u32 y1, .int .u8 (y2 / 16777216), .int .u32 (y2 % 16777216), .int .u32 y3, .int .u32 y4, .int .u32 y5, .int .u32 y6]) (n := 1) (size := 7) rfl (by decide) Try.underlying46 (by simp [Value.oneCell'])
   have XE := (HST.out.grow (.cells #[.int .u32 y1, .int .u8 (y2 / 16777216), .int .u32 (y2 % 16777216), .int .u32 y3, .int .u32 y4, .int .u32 y5, .int .u32 y6] 65)).rowUp3
   obtain ⟨i0, hi0, hz0, hz1, hz2⟩ := info_parts info65
   have WE := VL (show L.length <= 2001 from by have := YZ.out.1; omega)
   go_wp2_with (at_builtin; refine Zj _ rfl _ _ 46 46 rfl 0 65 i0 _ 7 28 Try.underlying46 hi0 hz0 hz1 hz2 rfl _ L.length (flat Yt L) rfl XE.head _ 1 _ rfl Yu (by have := WE.out; unfold maxLen; omega) (by have := WE.out; omega) (Nat.zero_le _) ?_)
   intro v' w5 Z9 Zr hat
   have HMS := VL (show mS r7 < mS rL from by
    have m0 : mS r2 < mS rL := by rw [HXy1.out.2]; exact mS_cut (by decide) HLN.out.2.symm
    have m1 : mS r3 <= mS r2 := by rw [HXy2.out.2]; exact VC
    have m2 : mS r4 <= mS r3 := by rw [HXy3.out.2]; exact VC
    have m3 : mS r5 <= mS r4 := by rw [HXy4.out.2]; exact VC
    have m4 : mS r6 <= mS r5 := by rw [HXy5.out.2]; exact VC
    have m5 : mS r7 <= mS r6 := by rw [HXy6.out.2]; exact VC
    omega)
   have Zb : w5.ownsRow 0 65 7 v' (L.length + 1) (flat Yt (L ++ [(⟨y1, y2 / 16777216, y2 % 16777216, y3, y4, y5, y6⟩ : Rp)])) := by rw [Z7]; exact Z9
   obtain ⟨A10, c10, rfl⟩ := ZW Zb
   have Zo := XE.grown Zr Zb (by simpa using hat)
   -- row :: q8 :: b :: q :: M
   have HS6 := VL (show St J0 (b :: bk q 51 #[.int .i64 2, .int .u32 x1, .int .u32 0, .int .u64 0, .int .u32 0, .int .u32 0, .int .u32 0, .slice A10 (L.length + 1) c10, .string ⟨#[]⟩, .slice none 0 0, .slice none 0 0, .int .u16 0, .int .u32 0, .int .u8 0, .slice none 0 0, .slice none 0 0] :: row 65 7 (.slice A10 (L.length + 1) c10) (L.length + 1) (flat Yt (L ++ [(⟨y1, y2 / 16777216, y2 % 16777216, y3, y4, y5, y6⟩ : Rp)])) :: M) (w5.setCell ⟨q, 7, none⟩ (.slice A10 (L.length + 1) c10)) from (((Zo.ZQ.drop.Ya.set 7 (.slice A10 (L.length + 1) c10)).ZQ)))
   obtain ⟨hcp, hfp, hlp⟩ := ZO.all (Zo.at 3 rfl)
   clear Zo Z9 Zb Zr hat Yu XE h8 f8 l8 hcq hfq hlq
   go_wp2
   go_roundw
   case rel =>
    refine ⟨L ++ [(⟨y1, y2 / 16777216, y2 % 16777216, y3, y4, y5, y6⟩ : Rp)], A10, c10, r7, b, VL ⟨by rw [List.length_append]; exact HS6.out, HR.out, HL.out, ?_, ?_, ?_⟩⟩
    ·have h1 := YZ.out.1
     have h2 := HMS.out
     rw [List.length_append, List.length_singleton]
     omega
    ·intro x hx
     rcases List.mem_append.1 hx with hx | hx
     ·exact YZ.out.2.1 x hx
     rw [List.mem_singleton.1 hx]
     exact rawRep y1a y1b y2a y2b y3a y3b y4a y4b y5a y5b y6a y6b
    intro p hp
    obtain ⟨t, h1, h2⟩ := YZ.out.2.2 p hp
    obtain ⟨h3, h4⟩ := HLN.out
    have h3 := congrArg List.length (congrArg Prod.fst h2)
    obtain ⟨y, t', ht', hby⟩ := Xx (by rw [<- h3]; exact HPOS.out)
    rw [hby] at h2
    have hyr := (HT.out p hp).2.1.ZE y (by rw [h1, ht']; simp)
    obtain ⟨he, h5⟩ := rdRep hyr h2 HXy1.out HXy2.out HXy3.out HXy4.out HXy5.out HXy6.out
    exact ⟨t', by rw [h1, ht', he]; simp, h5⟩
   case measure =>
    rw [Wu HR.out HS6.out, HM0.out]
    exact HMS.out
  go_upto_region 41 with (first | (go_at_call 25; refine HLf.out.mono ?_; rintro e w3 ⟨rfl, hw⟩; subst hw) | (go_at_call 29; refine HBd.out.mono ?_; rintro e w3 ⟨rfl, hw⟩; subst hw))
  have HE := VL (show ∀ p, T p -> p.ZE = L from fun p hp => by
   obtain ⟨t, h1, h2⟩ := YZ.out.2.2 p hp
   obtain ⟨h3, h4⟩ := HLN.out
   rw [h2] at h4
   cases h4)
  have hb : ZO wr q 51 #[.int .i64 2, .int .u32 x1, .int .u32 0, .int .u64 0, .int .u32 0, .int .u32 0, .int .u32 0, .slice A L.length c, .string ⟨#[]⟩, .slice none 0 0, .slice none 0 0, .int .u16 0, .int .u32 0, .int .u8 0, .slice none 0 0, .slice none 0 0] := HS.out.at 1 rfl
  have hone : (#[.int .i64 2, .int .u32 x1, .int .u32 0, .int .u64 0, .int .u32 0, .int .u32 0, .int .u32 0, .slice A L.length c, .string ⟨#[]⟩, .slice none 0 0, .slice none 0 0, .int .u16 0, .int .u32 0, .int .u8 0, .slice none 0 0, .slice none 0 0] : Array Value).all (·.oneCell') = true := by kernel_rfl
  have HS6 := VL (HS.out.YS #[.int .i64 2, .int .u32 x1, .int .u32 0, .int .u64 0, .int .u32 0, .int .u32 0, .int .u32 0, .slice A L.length c, .string ⟨#[]⟩, .slice none 0 0, .slice none 0 0, .int .u16 0, .int .u32 0, .int .u8 0, .slice none 0 0, .slice none 0 0])
  go_wp2_with (first | refine wpList_load_row rfl 51 (.tmp 6) rfl q rfl 51 _ (0, 0) _ hb hd rfl Zx ?_ | refine wpList_store_row rfl 51 (.tmp 6) (.tmp _) rfl q #[.int .i64 2, .int .u32 x1, .int .u32 0, .int .u64 0, .int .u32 0, .int .u32 0, .int .u32 0, .slice A L.length c, .string ⟨#[]⟩, .slice none 0 0, .slice none 0 0, .int .u16 0, .int .u32 0, .int .u8 0, .slice none 0 0, .slice none 0 0] rfl rfl 51 _ hb Zx rfl hone ?_)
  refine bodyPost_ret (results_cell_row (p := 6) Try.results30 _ _ q 51 _ (0, 0) _ rfl (HS6.out.at 1 rfl) hd rfl Zx) rfl ?_
  have hcap := (Yh (show World.ownsRow _ 0 65 7 (.slice A L.length c) L.length _ from HS6.out.at 2 rfl)).2
  obtain ⟨J2, Zd, hs7, hcl⟩ := HS6.out.drop.drop.ZR
  refine ⟨J2, ⟨2, x1, 0, 0, 0, 0, 0, L, ⟨#[]⟩, [], [], 0, 0, 0, [], []⟩, ⟨.slice A L.length c, YA, YA, YA, YA⟩, rfl, Zd, hs7, ⟨⟨A, c, rfl, hcl, hcap⟩, Y4.nil J2 _, Y4.nil J2 _, Y4.nil J2 _, Y4.nil J2 _⟩, WA ⟨x1a, x1b⟩ (by simp) (by simp) (by simp) (by simp) (by simp) YZ.out.2.1 (by simp) (by simp) (by simp) (by simp) (by simp) (by simp) (by have := YZ.out.1; simp only []; omega) (Nat.zero_le _) (Nat.zero_le _) (Nat.zero_le _) (Nat.zero_le _) (Nat.zero_le _), .inl rfl, fun p hp => ?_⟩
  have h5 := (HF.out p hp).1
  rw [HE.out p hp] at h5
  exact h5
set_option maxRecDepth 100000 in
set_option maxHeartbeats 20000000 in
theorem read3 (J0 : Zh) (M : List Zt) (w : World) (f s : Int) (p9 : Nat) (r : RS) (b : Zt) (T : Pk -> Prop) (hT : ∀ p, T p -> Good p /\ Y6 p /\ p.kind = 3 /\ r = (YH (Zu p), false)) (hk : XR f s = 3) (hf : 0 <= f /\ f <= 255) (hl : r.1.length <= 2000) (ZX : St J0 (b :: M) w) (hR : Rdr J0 p9 r b) :
  Calls Try.prog 30 #[.int .u8 f, .int .u8 s, .pointer (some ⟨p9, 0, none⟩)] w (RdOk J0 M T) := by
 have HT := VL hT
 have HK := kindC f s (w.alloc (.cells #[.int .i64 0, .int .u32 0, .int .u32 0, .int .u64 0, .int .u32 0, .int .u32 0, .int .u32 0, .slice none 0 0, .string ⟨#[]⟩, .slice none 0 0, .slice none 0 0, .int .u16 0, .int .u32 0, .int .u8 0, .slice none 0 0, .slice none 0 0] 51)) hf
 rw [hk] at HK
 have HK := VL HK
 have HR := VL hR
 have ZY := (ZX.alloc 51 #[.int .i64 0, .int .u32 0, .int .u32 0, .int .u64 0, .int .u32 0, .int .u32 0, .int .u32 0, .slice none 0 0, .string ⟨#[]⟩, .slice none 0 0, .slice none 0 0, .int .u16 0, .int .u32 0, .int .u8 0, .slice none 0 0, .slice none 0 0]).ZQ
 obtain ⟨q, hq⟩ : ∃ q, q = w.heap.size := ⟨_, rfl⟩
 rw [<- hq] at ZY
 have HL := VL hl
 clear hT hk hR ZX hl
 obtain ⟨fs, hd⟩ := st51D
 go_enter Try.func30, Try.ntmps30
 go_upto_region 1 with fail
 rw [<- hq]
 clear hq
 generalize World.alloc w _ = W at ZY HK ⊢
 have HS := VL ZY
 clear ZY
 obtain ⟨hcA, hfA, hlA⟩ := ZO.all (HS.out.at 1 rfl)
 go_wp2_with fail
 go_at_call 61
 refine HK.out.mono ?_
 clear HK
 rintro e w0 ⟨rfl, hw⟩
 subst hw
 have hs9 : St J0 (b :: bk q 51 #[.int .i64 3, .int .u32 0, .int .u32 0, .int .u64 0, .int .u32 0, .int .u32 0, .int .u32 0, .slice none 0 0, .string ⟨#[]⟩, .slice none 0 0, .slice none 0 0, .int .u16 0, .int .u32 0, .int .u8 0, .slice none 0 0, .slice none 0 0] :: M) ((W).setCell ⟨q, 0, none⟩ (.int .i64 3)) := (HS.out.ZQ.set 0 (.int .i64 3)).ZQ
 have HS := VL hs9
 clear hs9
 obtain ⟨hcB, hfB, hlB⟩ := ZO.all (HS.out.at 1 rfl)
 have HC := VL (Y1 (I := J0) p9 r b HS.out HR.out)
 go_wp2_with fail
 go_at_call 62
 refine HC.out.mono ?_
 clear HC HS HR hcA hfA hlA
 try clear hcB hfB hlB
 rintro e w1 ⟨_, _, _, rfl, _, hs, rfl, rfl, b, hR, rfl⟩
 obtain ⟨x1, hx⟩ : ∃ z, z = ((YP (Zl 4 r).1 : Nat) : Int) := ⟨_, rfl⟩
 obtain ⟨r1, hr⟩ : ∃ z, z = (Zl 4 r).2 := ⟨_, rfl⟩
 have Zw := YT 4 r 4 (by decide)
 rw [<- hx] at Zw ⊢
 rw [<- hr] at hR
 obtain ⟨x1a, x1b⟩ := Zw
 have HL := VL (show r1.1.length <= 2000 from (by rw [hr]; exact Nat.le_trans (Ze 4 r) HL.out))
 replace x1b : x1 <= 4294967295 := (by have h9 : ((256 ^ 4 : Nat) : Int) = 4294967296 := (by decide); omega)
 have HXx1 := VL (And.intro hx hr)
 have HS := VL hs
 have HR := VL hR
 clear hx hr hs hR
 obtain ⟨hcA, hfA, hlA⟩ := ZO.all (HS.out.at 1 rfl)
 have hs9 : St J0 (b :: bk q 51 #[.int .i64 3, .int .u32 x1, .int .u32 0, .int .u64 0, .int .u32 0, .int .u32 0, .int .u32 0, .slice none 0 0, .string ⟨#[]⟩, .slice none 0 0, .slice none 0 0, .int .u16 0, .int .u32 0, .int .u8 0, .slice none 0 0, .slice none 0 0] :: M) ((w1).setCell ⟨q, 1, none⟩ (.int .u32 x1)) := (HS.out.ZQ.set 1 (.int .u32 x1)).ZQ
 have HS := VL hs9
 clear hs9
 obtain ⟨hcB, hfB, hlB⟩ := ZO.all (HS.out.at 1 rfl)
 have HC := VL (rd_u8 (I := J0) p9 r1 b HS.out HR.out)
 go_wp2_with fail
 go_at_call 26
 refine HC.out.mono ?_
 clear HC HS HR hcA hfA hlA
 try clear hcB hfB hlB
 rintro e w2 ⟨_, _, _, rfl, _, hs, rfl, rfl, b, hR, rfl⟩
 obtain ⟨y1, hx⟩ : ∃ z, z = ((YP (Zl 1 r1).1 : Nat) : Int) := ⟨_, rfl⟩
 obtain ⟨r2, hr⟩ : ∃ z, z = (Zl 1 r1).2 := ⟨_, rfl⟩
 have Zw := YT 1 r1 1 (by decide)
 rw [<- hx] at Zw ⊢
 rw [<- hr] at hR
 obtain ⟨y1a, y1b⟩ := Zw
 have HL := VL (show r2.1.length <= 2000 from (by rw [hr]; exact Nat.le_trans (Ze 1 r1) HL.out))
 replace y1b : y1 <= 255 := (by have h9 : ((256 ^ 1 : Nat) : Int) = 256 := (by decide); omega)
 have HXy1 := VL (And.intro hx hr)
 have HS := VL hs
 have HR := VL hR
 clear hx hr hs hR
 obtain ⟨hcA, hfA, hlA⟩ := ZO.all (HS.out.at 1 rfl)
 have HC := VL (rd_u8 (I := J0) p9 r2 b HS.out HR.out)
 go_wp2_with fail
 go_at_call 26
 refine HC.out.mono ?_
 clear HC HS HR hcA hfA hlA
 try clear hcB hfB hlB
 rintro e w3 ⟨_, _, _, rfl, _, hs, rfl, rfl, b, hR, rfl⟩
 obtain ⟨y2, hx⟩ : ∃ z, z = ((YP (Zl 1 r2).1 : Nat) : Int) := ⟨_, rfl⟩
 obtain ⟨r3, hr⟩ : ∃ z, z = (Zl 1 r2).2 := ⟨_, rfl⟩
 have Zw := YT 1 r2 1 (by decide)
 rw [<- hx] at Zw ⊢
 rw [<- hr] at hR
 obtain ⟨y2a, y2b⟩ := Zw
 have HL := VL (show r3.1.length <= 2000 from (by rw [hr]; exact Nat.le_trans (Ze 1 r2) HL.out))
 replace y2b : y2 <= 255 := (by have h9 : ((256 ^ 1 : Nat) : Int) = 256 := (by decide); omega)
 have HXy2 := VL (And.intro hx hr)
 have HS := VL hs
 have HR := VL hR
 clear hx hr hs hR
 obtain ⟨hcA, hfA, hlA⟩ := ZO.all (HS.out.at 1 rfl)
 have HC := VL (rd_take (I := J0) p9 y2 r3 b HS.out HR.out (by omega) (by have := HL.out; omega))
 go_wp2_with fail
 go_at_call 27
 refine HC.out.mono ?_
 clear HC HR HS hcA hfA hlA
 rintro e w4 ⟨_, _, _, rfl, _, hs, rfl, A9, c9, b, rfl, hc9, hR, rfl⟩
 obtain ⟨J2, Zd, hs6, hB⟩ := hs.ZR
 have HLE := VL Zd
 have hln := cutS_len y2 r3 255 y2b
 obtain ⟨bs, hbs⟩ : ∃ z, z = (Zl y2 r3).1 := ⟨_, rfl⟩
 rw [<- hbs] at hB hln ⊢
 have hcv := Zq.conv (bs := bs) hB hs6 Try.underlying24 Try.underlying5 Try.underlying9 c9
 have HBS := VL hbs
 have HLN := VL hln
 clear hbs hln Zd hs hR
 have HS := VL hs6
 clear hs6
 obtain ⟨hcA, hfA, hlA⟩ := ZO.all (HS.out.at 1 rfl)
 go_upto_region 13 with fail
 have ZY : St J2 (b :: bk q 51 #[.int .i64 3, .int .u32 x1, .int .u32 0, .int .u64 0, .int .u32 0, .int .u32 0, .int .u32 0, .slice none 0 0, .string ⟨bs.toArray⟩, .slice none 0 0, .slice none 0 0, .int .u16 0, .int .u32 0, .int .u8 0, .slice none 0 0, .slice none 0 0] :: M) _ := (HS.out.ZQ.set 8 (.string ⟨bs.toArray⟩)).ZQ
 clear HS hcA hfA hlA
 have HS := VL ZY
 clear ZY hcv hB
 generalize World.setCell w4 _ _ = W5 at HS ⊢
 have hb : ZO W5 q 51 #[.int .i64 3, .int .u32 x1, .int .u32 0, .int .u64 0, .int .u32 0, .int .u32 0, .int .u32 0, .slice none 0 0, .string ⟨bs.toArray⟩, .slice none 0 0, .slice none 0 0, .int .u16 0, .int .u32 0, .int .u8 0, .slice none 0 0, .slice none 0 0] := HS.out.at 1 rfl
 have hone : (#[.int .i64 3, .int .u32 x1, .int .u32 0, .int .u64 0, .int .u32 0, .int .u32 0, .int .u32 0, .slice none 0 0, .string ⟨bs.toArray⟩, .slice none 0 0, .slice none 0 0, .int .u16 0, .int .u32 0, .int .u8 0, .slice none 0 0, .slice none 0 0] : Array Value).all (·.oneCell') = true := by kernel_rfl
 have HS6 := VL (HS.out.YS #[.int .i64 3, .int .u32 x1, .int .u32 0, .int .u64 0, .int .u32 0, .int .u32 0, .int .u32 0, .slice none 0 0, .string ⟨bs.toArray⟩, .slice none 0 0, .slice none 0 0, .int .u16 0, .int .u32 0, .int .u8 0, .slice none 0 0, .slice none 0 0])
 go_wp2_with (first | refine wpList_load_row rfl 51 (.tmp 6) rfl q rfl 51 _ (0, 0) _ hb hd rfl Zx ?_ | refine wpList_store_row rfl 51 (.tmp 6) (.tmp _) rfl q #[.int .i64 3, .int .u32 x1, .int .u32 0, .int .u64 0, .int .u32 0, .int .u32 0, .int .u32 0, .slice none 0 0, .string ⟨bs.toArray⟩, .slice none 0 0, .slice none 0 0, .int .u16 0, .int .u32 0, .int .u8 0, .slice none 0 0, .slice none 0 0] rfl rfl 51 _ hb Zx rfl hone ?_)
 refine bodyPost_ret (results_cell_row (p := 6) Try.results30 _ _ q 51 _ (0, 0) _ rfl (HS6.out.at 1 rfl) hd rfl Zx) rfl ?_
 refine ⟨J2, ⟨3, x1, 0, 0, 0, 0, 0, [], ⟨bs.toArray⟩, [], [], 0, 0, 0, [], []⟩, VH, rfl, HLE.out, HS6.out.drop.drop, ⟨Y4.nil J2 _, Y4.nil J2 _, Y4.nil J2 _, Y4.nil J2 _, Y4.nil J2 _⟩, WA ⟨x1a, x1b⟩ (by simp) (by simp) (by simp) (by simp) (by simp) (by simp) (by simp) (by simp) (by simp) (by simp) (by simp) (by simp) (Nat.zero_le _) (Nat.zero_le _) (Nat.zero_le _) (Nat.zero_le _) (Nat.zero_le _) (show bs.toArray.size <= 70000 from by have := HLN.out; rw [List.size_toArray]; omega), .inl rfl, fun p hp => ?_⟩
 obtain ⟨hg, hok, hk, hr⟩ := HT.out p hp
 obtain ⟨h1, t, h2⟩ := shape3 hg hk
 have hsz : 1 <= p.name.size /\ p.name.size <= 64 := by
  have := hg.1
  unfold YF at this
  omega
 rw [h2] at hr
 obtain ⟨a1, hr⟩ := YY HXx1.out hok.ZA hr
 obtain ⟨a2, hr⟩ := Wd HXy1.out (by decide) hr
 obtain ⟨a3, hr6⟩ := Wd HXy2.out (by omega) hr
 have h4 := HBS.out
 rw [hr6, cut_app p.name.data.toList t y2 (by rw [a3]; rfl)] at h4
 rw [h1, a1, h4]
end Go.Proofs.Ytddopbbmgpnjjaa
