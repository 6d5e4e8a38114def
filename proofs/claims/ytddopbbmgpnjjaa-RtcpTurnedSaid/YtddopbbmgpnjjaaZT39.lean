/- part. -/
import Derived.Test.YtddopbbmgpnjjaaZT34
import Derived.Test.YtddopbbmgpnjjaaZT35
import Derived.Test.YtddopbbmgpnjjaaZT36
import Derived.Test.YtddopbbmgpnjjaaZT37
import Derived.Test.YtddopbbmgpnjjaaZT38
namespace Go.Proofs.Ytddopbbmgpnjjaa
set_option linter.unusedSimpArgs false
open Go.RowKit
set_option maxRecDepth 100000 in
set_option maxHeartbeats 20000000 in
theorem read7 (J0 : Zh) (M : List Zt) (w : World) (f s : Int) (p9 : Nat) (r : RS) (b : Zt) (T : Pk -> Prop) (hT : ∀ p, T p -> Good p /\ Y6 p /\ p.kind = 7 /\ r = (YH (Zu p), false)) (hk : XR f s = 7) (hf : 0 <= f /\ f <= 255) (hl : r.1.length <= 2000) (ZX : St J0 (b :: M) w) (hR : Rdr J0 p9 r b) :
  Calls Try.prog 30 #[.int .u8 f, .int .u8 s, .pointer (some ⟨p9, 0, none⟩)] w (RdOk J0 M T) := by
 have HT := VL hT
 have HK := kindC f s (w.alloc (.cells #[.int .i64 0, .int .u32 0, .int .u32 0, .int .u64 0, .int .u32 0, .int .u32 0, .int .u32 0, .slice none 0 0, .string ⟨#[]⟩, .slice none 0 0, .slice none 0 0, .int .u16 0, .int .u32 0, .int .u8 0, .slice none 0 0, .slice none 0 0] 51)) hf
 rw [hk] at HK
 have HK := VL HK
 have HR := VL hR
 have ZY := (ZX.alloc 51 #[.int .i64 0, .int .u32 0, .int .u32 0, .int .u64 0, .int .u32 0, .int .u32 0, .int .u32 0, .slice none 0 0, .string ⟨#[]⟩, .slice none 0 0, .slice none 0 0, .int .u16 0, .int .u32 0, .int .u8 0, .slice none 0 0, .slice none 0 0]).ZQ
 obtain ⟨q, hq⟩ : ∃ q, q = w.heap.size := ⟨_, rfl⟩
 rw [<- hq] at ZY
 have HL := VL hl
 clear hT hk hR ZX hl
 obtain ⟨fs, hd⟩ := st51D
 go_enter Try.func30, Try.ntmps30
 go_upto_region 1 with fail
 rw [<- hq]
 clear hq
 generalize World.alloc w _ = W at ZY HK ⊢
 have HS := VL ZY
 clear ZY
 obtain ⟨hcA, hfA, hlA⟩ := ZO.all (HS.out.at 1 rfl)
 go_wp2_with fail
 go_at_call 61
 refine HK.out.mono ?_
 clear HK
 rintro e w0 ⟨rfl, hw⟩
 subst hw
 have hs9 : St J0 (b :: bk q 51 #[.int .i64 7, .int .u32 0, .int .u32 0, .int .u64 0, .int .u32 0, .int .u32 0, .int .u32 0, .slice none 0 0, .string ⟨#[]⟩, .slice none 0 0, .slice none 0 0, .int .u16 0, .int .u32 0, .int .u8 0, .slice none 0 0, .slice none 0 0] :: M) ((W).setCell ⟨q, 0, none⟩ (.int .i64 7)) := (HS.out.ZQ.set 0 (.int .i64 7)).ZQ
 have HS := VL hs9
 clear hs9
 obtain ⟨hcB, hfB, hlB⟩ := ZO.all (HS.out.at 1 rfl)
 have HC := VL (Y1 (I := J0) p9 r b HS.out HR.out)
 go_wp2_with fail
 go_at_call 62
 refine HC.out.mono ?_
 clear HC HS HR hcA hfA hlA
 try clear hcB hfB hlB
 rintro e w1 ⟨_, _, _, rfl, _, hs, rfl, rfl, b, hR, rfl⟩
 obtain ⟨x1, hx⟩ : ∃ z, z = ((YP (Zl 4 r).1 : Nat) : Int) := ⟨_, rfl⟩
 obtain ⟨r1, hr⟩ : ∃ z, z = (Zl 4 r).2 := ⟨_, rfl⟩
 have Zw := YT 4 r 4 (by decide)
 rw [<- hx] at Zw ⊢
 rw [<- hr] at hR
 obtain ⟨x1a, x1b⟩ := Zw
 have HL := VL (show r1.1.length <= 2000 from (by rw [hr]; exact Nat.le_trans (Ze 4 r) HL.out))
 replace x1b : x1 <= 4294967295 := (by have h9 : ((256 ^ 4 : Nat) : Int) = 4294967296 := (by decide); omega)
 have HXx1 := VL (And.intro hx hr)
 have HS := VL hs
 have HR := VL hR
 clear hx hr hs hR
 obtain ⟨hcA, hfA, hlA⟩ := ZO.all (HS.out.at 1 rfl)
 have hs9 : St J0 (b :: bk q 51 #[.int .i64 7, .int .u32 x1, .int .u32 0, .int .u64 0, .int .u32 0, .int .u32 0, .int .u32 0, .slice none 0 0, .string ⟨#[]⟩, .slice none 0 0, .slice none 0 0, .int .u16 0, .int .u32 0, .int .u8 0, .slice none 0 0, .slice none 0 0] :: M) ((w1).setCell ⟨q, 1, none⟩ (.int .u32 x1)) := (HS.out.ZQ.set 1 (.int .u32 x1)).ZQ
 have HS := VL hs9
 clear hs9
 obtain ⟨hcB, hfB, hlB⟩ := ZO.all (HS.out.at 1 rfl)
 have HC := VL (Y1 (I := J0) p9 r1 b HS.out HR.out)
 go_wp2_with fail
 go_at_call 62
 refine HC.out.mono ?_
 clear HC HS HR hcA hfA hlA
 try clear hcB hfB hlB
 rintro e w2 ⟨_, _, _, rfl, _, hs, rfl, rfl, b, hR, rfl⟩
 obtain ⟨x2, hx⟩ : ∃ z, z = ((YP (Zl 4 r1).1 : Nat) : Int) := ⟨_, rfl⟩
 obtain ⟨r2, hr⟩ : ∃ z, z = (Zl 4 r1).2 := ⟨_, rfl⟩
 have Zw := YT 4 r1 4 (by decide)
 rw [<- hx] at Zw ⊢
 rw [<- hr] at hR
 obtain ⟨x2a, x2b⟩ := Zw
 have HL := VL (show r2.1.length <= 2000 from (by rw [hr]; exact Nat.le_trans (Ze 4 r1) HL.out))
 replace x2b : x2 <= 4294967295 := (by have h9 : ((256 ^ 4 : Nat) : Int) = 4294967296 := (by decide); omega)
 have HXx2 := VL (And.intro hx hr)
 have HS := VL hs
 have HR := VL hR
 clear hx hr hs hR
 obtain ⟨hcA, hfA, hlA⟩ := ZO.all (HS.out.at 1 rfl)
 have hs9 : St J0 (b :: bk q 51 #[.int .i64 7, .int .u32 x1, .int .u32 x2, .int .u64 0, .int .u32 0, .int .u32 0, .int .u32 0, .slice none 0 0, .string ⟨#[]⟩, .slice none 0 0, .slice none 0 0, .int .u16 0, .int .u32 0, .int .u8 0, .slice none 0 0, .slice none 0 0] :: M) ((w2).setCell ⟨q, 2, none⟩ (.int .u32 x2)) := (HS.out.ZQ.set 2 (.int .u32 x2)).ZQ
 have HS := VL hs9
 clear hs9
 obtain ⟨hcB, hfB, hlB⟩ := ZO.all (HS.out.at 1 rfl)
 go_upto_region 17 with fail
 generalize World.setCell w2 _ _ = W2 at HS hcB hfB hlB ⊢
 clear hcA hfA hlA
 go_loopw [] (fun wr => wr = W2) (fun _ => 0)
 case atStart => rfl
 case round =>
  have hwr := hrel
  subst hwr
  have HF := VL (show ∀ p, T p -> (⟨7, x1, x2, 0, 0, 0, 0, [], ⟨#[]⟩, [], [], 0, 0, 0, [], []⟩ : Pk) = p /\ r2 = ([], false) from fun p hp => by
   obtain ⟨hg, hok, hk, hr⟩ := HT.out p hp
   obtain ⟨h1, h2⟩ := shape7 hg hk
   obtain ⟨a1, a2⟩ := HXx1.out
   obtain ⟨a3, a4⟩ := HXx2.out
   rw [hr, h2, (rd4 hok.ZA _).1] at a1
   rw [hr, h2, (rd4 hok.ZA _).2] at a2
   rw [a2, (rd4 hok.ZC _).1] at a3
   rw [a2, (rd4 hok.ZC _).2] at a4
   rw [h1, <- a1, <- a3]
   exact ⟨rfl, a4⟩)
  have HLf := VL (Wi (I := J0) p9 r2 b HS.out HR.out)
  have HBd := VL (WY (I := J0) p9 r2 b HS.out HR.out)
  obtain ⟨ln, hln⟩ : ∃ n, n = r2.1.length := ⟨_, rfl⟩
  obtain ⟨bd, hbd⟩ : ∃ x, x = r2.2 := ⟨_, rfl⟩
  rw [<- hln] at HLf
  rw [<- hbd] at HBd
  have HLN := VL (And.intro hln hbd)
  clear hln hbd
  rcases Nat.eq_zero_or_pos ln with h0 | h0
  ·subst h0
   go_upto_region 41 with (go_at_call 25; refine HLf.out.mono ?_; rintro e w3 ⟨rfl, hw⟩; subst hw)
   have hb : ZO wr q 51 #[.int .i64 7, .int .u32 x1, .int .u32 x2, .int .u64 0, .int .u32 0, .int .u32 0, .int .u32 0, .slice none 0 0, .string ⟨#[]⟩, .slice none 0 0, .slice none 0 0, .int .u16 0, .int .u32 0, .int .u8 0, .slice none 0 0, .slice none 0 0] := HS.out.at 1 rfl
   have hone : (#[.int .i64 7, .int .u32 x1, .int .u32 x2, .int .u64 0, .int .u32 0, .int .u32 0, .int .u32 0, .slice none 0 0, .string ⟨#[]⟩, .slice none 0 0, .slice none 0 0, .int .u16 0, .int .u32 0, .int .u8 0, .slice none 0 0, .slice none 0 0] : Array Value).all (·.oneCell') = true := by kernel_rfl
   have HS6 := VL (HS.out.YS #[.int .i64 7, .int .u32 x1, .int .u32 x2, .int .u64 0, .int .u32 0, .int .u32 0, .int .u32 0, .slice none 0 0, .string ⟨#[]⟩, .slice none 0 0, .slice none 0 0, .int .u16 0, .int .u32 0, .int .u8 0, .slice none 0 0, .slice none 0 0])
   go_wp2_with (first | refine wpList_load_row rfl 51 (.tmp 6) rfl q rfl 51 _ (0, 0) _ hb hd rfl Zx ?_ | refine wpList_store_row rfl 51 (.tmp 6) (.tmp _) rfl q #[.int .i64 7, .int .u32 x1, .int .u32 x2, .int .u64 0, .int .u32 0, .int .u32 0, .int .u32 0, .slice none 0 0, .string ⟨#[]⟩, .slice none 0 0, .slice none 0 0, .int .u16 0, .int .u32 0, .int .u8 0, .slice none 0 0, .slice none 0 0] rfl rfl 51 _ hb Zx rfl hone ?_)
   refine bodyPost_ret (results_cell_row (p := 6) Try.results30 _ _ q 51 _ (0, 0) _ rfl (HS6.out.at 1 rfl) hd rfl Zx) rfl ?_
   exact ⟨J0, ⟨7, x1, x2, 0, 0, 0, 0, [], ⟨#[]⟩, [], [], 0, 0, 0, [], []⟩, VH, rfl, .refl J0, HS6.out.drop.drop, Xc J0 7 x1 x2, XO 7 x1 x2 ⟨x1a, x1b⟩ ⟨x2a, x2b⟩, .inl rfl, fun p hp => (HF.out p hp).1⟩
  have h0i : (0 : Int) < (ln : Int) := by omega
  cases bd
  ·skip
   go_upto_region 19 with (first | (go_at_call 25; refine HLf.out.mono ?_; rintro e w3 ⟨rfl, hw⟩; subst hw) | (go_at_call 29; refine HBd.out.mono ?_; rintro e w3 ⟨rfl, hw⟩; subst hw))
   have hb : ZO wr q 51 #[.int .i64 7, .int .u32 x1, .int .u32 x2, .int .u64 0, .int .u32 0, .int .u32 0, .int .u32 0, .slice none 0 0, .string ⟨#[]⟩, .slice none 0 0, .slice none 0 0, .int .u16 0, .int .u32 0, .int .u8 0, .slice none 0 0, .slice none 0 0] := HS.out.at 1 rfl
   have hone : (#[.int .i64 0, .int .u32 0, .int .u32 0, .int .u64 0, .int .u32 0, .int .u32 0, .int .u32 0, .slice none 0 0, .string ⟨#[]⟩, .slice none 0 0, .slice none 0 0, .int .u16 0, .int .u32 0, .int .u8 0, .slice none 0 0, .slice none 0 0] : Array Value).all (·.oneCell') = true := by kernel_rfl
   have HS6 := VL (HS.out.YS #[.int .i64 0, .int .u32 0, .int .u32 0, .int .u64 0, .int .u32 0, .int .u32 0, .int .u32 0, .slice none 0 0, .string ⟨#[]⟩, .slice none 0 0, .slice none 0 0, .int .u16 0, .int .u32 0, .int .u8 0, .slice none 0 0, .slice none 0 0])
   go_wp2_with (first | refine wpList_load_row rfl 51 (.tmp 6) rfl q rfl 51 _ (0, 0) _ hb hd rfl Zx ?_ | refine wpList_store_row rfl 51 (.tmp 6) (.tmp _) rfl q #[.int .i64 0, .int .u32 0, .int .u32 0, .int .u64 0, .int .u32 0, .int .u32 0, .int .u32 0, .slice none 0 0, .string ⟨#[]⟩, .slice none 0 0, .slice none 0 0, .int .u16 0, .int .u32 0, .int .u8 0, .slice none 0 0, .slice none 0 0] rfl rfl 51 _ hb Zx rfl hone ?_)
   refine bodyPost_ret (results_cell_row (p := 6) Try.results30 _ _ q 51 _ (0, 0) _ rfl (HS6.out.at 1 rfl) hd rfl Zx) rfl ?_
   refine ⟨J0, ⟨0, 0, 0, 0, 0, 0, 0, [], ⟨#[]⟩, [], [], 0, 0, 0, [], []⟩, VH, rfl, .refl J0, HS6.out.drop.drop, Xc J0 0 0 0, XO 0 0 0 (by decide) (by decide), .inl rfl, fun p hp => ?_⟩
   have h1 := (HF.out p hp).2
   have h2 := HLN.out.1
   rw [h1] at h2
   simp at h2
   omega
  go_upto_region 41 with (first | (go_at_call 25; refine HLf.out.mono ?_; rintro e w3 ⟨rfl, hw⟩; subst hw) | (go_at_call 29; refine HBd.out.mono ?_; rintro e w3 ⟨rfl, hw⟩; subst hw))
  have hb : ZO wr q 51 #[.int .i64 7, .int .u32 x1, .int .u32 x2, .int .u64 0, .int .u32 0, .int .u32 0, .int .u32 0, .slice none 0 0, .string ⟨#[]⟩, .slice none 0 0, .slice none 0 0, .int .u16 0, .int .u32 0, .int .u8 0, .slice none 0 0, .slice none 0 0] := HS.out.at 1 rfl
  have hone : (#[.int .i64 7, .int .u32 x1, .int .u32 x2, .int .u64 0, .int .u32 0, .int .u32 0, .int .u32 0, .slice none 0 0, .string ⟨#[]⟩, .slice none 0 0, .slice none 0 0, .int .u16 0, .int .u32 0, .int .u8 0, .slice none 0 0, .slice none 0 0] : Array Value).all (·.oneCell') = true := by kernel_rfl
  have HS6 := VL (HS.out.YS #[.int .i64 7, .int .u32 x1, .int .u32 x2, .int .u64 0, .int .u32 0, .int .u32 0, .int .u32 0, .slice none 0 0, .string ⟨#[]⟩, .slice none 0 0, .slice none 0 0, .int .u16 0, .int .u32 0, .int .u8 0, .slice none 0 0, .slice none 0 0])
  go_wp2_with (first | refine wpList_load_row rfl 51 (.tmp 6) rfl q rfl 51 _ (0, 0) _ hb hd rfl Zx ?_ | refine wpList_store_row rfl 51 (.tmp 6) (.tmp _) rfl q #[.int .i64 7, .int .u32 x1, .int .u32 x2, .int .u64 0, .int .u32 0, .int .u32 0, .int .u32 0, .slice none 0 0, .string ⟨#[]⟩, .slice none 0 0, .slice none 0 0, .int .u16 0, .int .u32 0, .int .u8 0, .slice none 0 0, .slice none 0 0] rfl rfl 51 _ hb Zx rfl hone ?_)
  refine bodyPost_ret (results_cell_row (p := 6) Try.results30 _ _ q 51 _ (0, 0) _ rfl (HS6.out.at 1 rfl) hd rfl Zx) rfl ?_
  exact ⟨J0, ⟨7, x1, x2, 0, 0, 0, 0, [], ⟨#[]⟩, [], [], 0, 0, 0, [], []⟩, VH, rfl, .refl J0, HS6.out.drop.drop, Xc J0 7 x1 x2, XO 7 x1 x2 ⟨x1a, x1b⟩ ⟨x2a, x2b⟩, .inl rfl, fun p hp => (HF.out p hp).1⟩
set_option maxRecDepth 100000 in
set_option maxHeartbeats 20000000 in
theorem read8 (J0 : Zh) (M : List Zt) (w : World) (f s : Int) (p9 : Nat) (r : RS) (b : Zt) (T : Pk -> Prop) (hT : ∀ p, T p -> Good p /\ Y6 p /\ p.kind = 8 /\ r = (YH (Zu p), false)) (hk : XR f s = 8) (hf : 0 <= f /\ f <= 255) (hl : r.1.length <= 2000) (ZX : St J0 (b :: M) w) (hR : Rdr J0 p9 r b) :
  Calls Try.prog 30 #[.int .u8 f, .int .u8 s, .pointer (some ⟨p9, 0, none⟩)] w (RdOk J0 M T) := by
 have HT := VL hT
 have HK := kindC f s (w.alloc (.cells #[.int .i64 0, .int .u32 0, .int .u32 0, .int .u64 0, .int .u32 0, .int .u32 0, .int .u32 0, .slice none 0 0, .string ⟨#[]⟩, .slice none 0 0, .slice none 0 0, .int .u16 0, .int .u32 0, .int .u8 0, .slice none 0 0, .slice none 0 0] 51)) hf
 rw [hk] at HK
 have HK := VL HK
 have HR := VL hR
 have ZY := (ZX.alloc 51 #[.int .i64 0, .int .u32 0, .int .u32 0, .int .u64 0, .int .u32 0, .int .u32 0, .int .u32 0, .slice none 0 0, .string ⟨#[]⟩, .slice none 0 0, .slice none 0 0, .int .u16 0, .int .u32 0, .int .u8 0, .slice none 0 0, .slice none 0 0]).ZQ
 obtain ⟨q, hq⟩ : ∃ q, q = w.heap.size := ⟨_, rfl⟩
 rw [<- hq] at ZY
 have HL := VL hl
 clear hT hk hR ZX hl
 obtain ⟨fs, hd⟩ := st51D
 go_enter Try.func30, Try.ntmps30
 go_upto_region 1 with fail
 rw [<- hq]
 clear hq
 generalize World.alloc w _ = W at ZY HK ⊢
 have HS := VL ZY
 clear ZY
 obtain ⟨hcA, hfA, hlA⟩ := ZO.all (HS.out.at 1 rfl)
 go_wp2_with fail
 go_at_call 61
 refine HK.out.mono ?_
 clear HK
 rintro e w0 ⟨rfl, hw⟩
 subst hw
 have hs9 : St J0 (b :: bk q 51 #[.int .i64 8, .int .u32 0, .int .u32 0, .int .u64 0, .int .u32 0, .int .u32 0, .int .u32 0, .slice none 0 0, .string ⟨#[]⟩, .slice none 0 0, .slice none 0 0, .int .u16 0, .int .u32 0, .int .u8 0, .slice none 0 0, .slice none 0 0] :: M) ((W).setCell ⟨q, 0, none⟩ (.int .i64 8)) := (HS.out.ZQ.set 0 (.int .i64 8)).ZQ
 have HS := VL hs9
 clear hs9
 obtain ⟨hcB, hfB, hlB⟩ := ZO.all (HS.out.at 1 rfl)
 have HC := VL (Y1 (I := J0) p9 r b HS.out HR.out)
 go_wp2_with fail
 go_at_call 62
 refine HC.out.mono ?_
 clear HC HS HR hcA hfA hlA
 try clear hcB hfB hlB
 rintro e w1 ⟨_, _, _, rfl, _, hs, rfl, rfl, b, hR, rfl⟩
 obtain ⟨x1, hx⟩ : ∃ z, z = ((YP (Zl 4 r).1 : Nat) : Int) := ⟨_, rfl⟩
 obtain ⟨r1, hr⟩ : ∃ z, z = (Zl 4 r).2 := ⟨_, rfl⟩
 have Zw := YT 4 r 4 (by decide)
 rw [<- hx] at Zw ⊢
 rw [<- hr] at hR
 obtain ⟨x1a, x1b⟩ := Zw
 have HL := VL (show r1.1.length <= 2000 from (by rw [hr]; exact Nat.le_trans (Ze 4 r) HL.out))
 replace x1b : x1 <= 4294967295 := (by have h9 : ((256 ^ 4 : Nat) : Int) = 4294967296 := (by decide); omega)
 have HXx1 := VL (And.intro hx hr)
 have HS := VL hs
 have HR := VL hR
 clear hx hr hs hR
 obtain ⟨hcA, hfA, hlA⟩ := ZO.all (HS.out.at 1 rfl)
 have hs9 : St J0 (b :: bk q 51 #[.int .i64 8, .int .u32 x1, .int .u32 0, .int .u64 0, .int .u32 0, .int .u32 0, .int .u32 0, .slice none 0 0, .string ⟨#[]⟩, .slice none 0 0, .slice none 0 0, .int .u16 0, .int .u32 0, .int .u8 0, .slice none 0 0, .slice none 0 0] :: M) ((w1).setCell ⟨q, 1, none⟩ (.int .u32 x1)) := (HS.out.ZQ.set 1 (.int .u32 x1)).ZQ
 have HS := VL hs9
 clear hs9
 obtain ⟨hcB, hfB, hlB⟩ := ZO.all (HS.out.at 1 rfl)
 have HC := VL (Y1 (I := J0) p9 r1 b HS.out HR.out)
 go_wp2_with fail
 go_at_call 62
 refine HC.out.mono ?_
 clear HC HS HR hcA hfA hlA
 try clear hcB hfB hlB
 rintro e w2 ⟨_, _, _, rfl, _, hs, rfl, rfl, b, hR, rfl⟩
 obtain ⟨x2, hx⟩ : ∃ z, z = ((YP (Zl 4 r1).1 : Nat) : Int) := ⟨_, rfl⟩
 obtain ⟨r2, hr⟩ : ∃ z, z = (Zl 4 r1).2 := ⟨_, rfl⟩
 have Zw := YT 4 r1 4 (by decide)
 rw [<- hx] at Zw ⊢
 rw [<- hr] at hR
 obtain ⟨x2a, x2b⟩ := Zw
 have HL := VL (show r2.1.length <= 2000 from (by rw [hr]; exact Nat.le_trans (Ze 4 r1) HL.out))
 replace x2b : x2 <= 4294967295 := (by have h9 : ((256 ^ 4 : Nat) : Int) = 4294967296 := (by decide); omega)
 have HXx2 := VL (And.intro hx hr)
 have HS := VL hs
 have HR := VL hR
 clear hx hr hs hR
 obtain ⟨hcA, hfA, hlA⟩ := ZO.all (HS.out.at 1 rfl)
 have hs9 : St J0 (b :: bk q 51 #[.int .i64 8, .int .u32 x1, .int .u32 x2, .int .u64 0, .int .u32 0, .int .u32 0, .int .u32 0, .slice none 0 0, .string ⟨#[]⟩, .slice none 0 0, .slice none 0 0, .int .u16 0, .int .u32 0, .int .u8 0, .slice none 0 0, .slice none 0 0] :: M) ((w2).setCell ⟨q, 2, none⟩ (.int .u32 x2)) := (HS.out.ZQ.set 2 (.int .u32 x2)).ZQ
 have HS := VL hs9
 clear hs9
 obtain ⟨hcB, hfB, hlB⟩ := ZO.all (HS.out.at 1 rfl)
 have HF := VL (show ∀ p, T p -> (⟨8, x1, x2, 0, 0, 0, 0, [], ⟨#[]⟩, [], [], 0, 0, 0, [], p.ZB⟩ : Pk) = p /\ r2 = (p.ZB.flatMap XU, false) from fun p hp => by
  obtain ⟨hg, hok, hk, hr⟩ := HT.out p hp
  obtain ⟨h1, h2⟩ := shape8 hg hk
  rw [h2] at hr
  obtain ⟨h3, hr⟩ := YY HXx1.out hok.ZA hr
  obtain ⟨h4, hr6⟩ := YY HXx2.out hok.ZC hr
  rw [h3, h4, <- h1]
  exact ⟨rfl, hr6⟩)
 go_upto_region 17 with fail
 generalize World.setCell _ _ _ = W2 at HS hcB hfB hlB ⊢
 have Yu := (HS.out.nil (e := 68) (size := 2)).up12
 clear HS
 have HS := VL Yu
 clear Yu
 try clear hcA hfA hlA
 clear hcB hfB hlB
 go_loopw [] (fun wr => ∃ (L : List Wn) (A : Option Addr) (c : Nat) (rL : RS) (b9 : Zt), Hid (St J0 (b9 :: bk q 51 #[.int .i64 8, .int .u32 x1, .int .u32 x2, .int .u64 0, .int .u32 0, .int .u32 0, .int .u32 0, .slice none 0 0, .string ⟨#[]⟩, .slice none 0 0, .slice none 0 0, .int .u16 0, .int .u32 0, .int .u8 0, .slice none 0 0, .slice A L.length c] :: row 68 2 (.slice A L.length c) L.length (flat WO L) :: M) wr /\ Rdr J0 p9 rL b9 /\ rL.1.length <= 2000 /\ L.length + 1 * mS rL <= 2001 /\ (∀ x ∈ L, (0 <= x.src /\ x.src <= 4294967295) /\ (0 <= x.seq /\ x.seq <= 255)) /\ ∀ p, T p -> ∃ t, p.ZB = L ++ t /\ rL = (t.flatMap XU, false))) (fun wr => rdM wr p9)
 case atStart => exact ⟨[], none, 0, r2, b, VL ⟨HS.out, HR.out, HL.out, by have := mS_lt HL.out; simp only [List.length_nil]; omega, by simp, fun p hp => ⟨p.ZB, rfl, (HF.out p hp).2⟩⟩⟩
 case round =>
  obtain ⟨L, A, c, rL, b, hh⟩ := hrel
  obtain ⟨hs, hR, hl9, hlen, Yf, ht⟩ := hh.out
  clear hh HS HR HL
  have HS := VL hs
  have HR := VL hR
  have HL := VL hl9
  have YZ := VL (And.intro hlen (And.intro Yf ht))
  clear hs hR hl9 hlen Yf ht
  obtain ⟨hcA, hfA, hlA⟩ := ZO.all (HS.out.at 1 rfl)
  have HLf := VL (Wi (I := J0) p9 rL b HS.out HR.out)
  have HBd := VL (WY (I := J0) p9 rL b HS.out HR.out)
  obtain ⟨ln, hln⟩ : ∃ n, n = rL.1.length := ⟨_, rfl⟩
  obtain ⟨bd, hbd⟩ : ∃ x, x = rL.2 := ⟨_, rfl⟩
  rw [<- hln] at HLf
  rw [<- hbd] at HBd
  have HLN := VL (And.intro hln hbd)
  clear hln hbd
  rcases Nat.eq_zero_or_pos ln with h0 | h0
  ·subst h0
   go_upto_region 41 with (go_at_call 25; refine HLf.out.mono ?_; rintro e w3 ⟨rfl, hw⟩; subst hw)
   have HE := VL (show ∀ p, T p -> p.ZB = L from fun p hp => by
    obtain ⟨t, h1, h2⟩ := YZ.out.2.2 p hp
    obtain ⟨h3, h4⟩ := HLN.out
    rw [h2] at h3
    rw [h1, VJ (fun x => by rw [Wm]; decide) h3.symm, List.append_nil])
   have hb : ZO wr q 51 #[.int .i64 8, .int .u32 x1, .int .u32 x2, .int .u64 0, .int .u32 0, .int .u32 0, .int .u32 0, .slice none 0 0, .string ⟨#[]⟩, .slice none 0 0, .slice none 0 0, .int .u16 0, .int .u32 0, .int .u8 0, .slice none 0 0, .slice A L.length c] := HS.out.at 1 rfl
   have hone : (#[.int .i64 8, .int .u32 x1, .int .u32 x2, .int .u64 0, .int .u32 0, .int .u32 0, .int .u32 0, .slice none 0 0, .string ⟨#[]⟩, .slice none 0 0, .slice none 0 0, .int .u16 0, .int .u32 0, .int .u8 0, .slice none 0 0, .slice A L.length c] : Array Value).all (·.oneCell') = true := by kernel_rfl
   have HS6 := VL (HS.out.YS #[.int .i64 8, .int .u32 x1, .int .u32 x2, .int .u64 0, .int .u32 0, .int .u32 0, .int .u32 0, .slice none 0 0, .string ⟨#[]⟩, .slice none 0 0, .slice none 0 0, .int .u16 0, .int .u32 0, .int .u8 0, .slice none 0 0, .slice A L.length c])
   go_wp2_with (first | refine wpList_load_row rfl 51 (.tmp 6) rfl q rfl 51 _ (0, 0) _ hb hd rfl Zx ?_ | refine wpList_store_row rfl 51 (.tmp 6) (.tmp _) rfl q #[.int .i64 8, .int .u32 x1, .int .u32 x2, .int .u64 0, .int .u32 0, .int .u32 0, .int .u32 0, .slice none 0 0, .string ⟨#[]⟩, .slice none 0 0, .slice none 0 0, .int .u16 0, .int .u32 0, .int .u8 0, .slice none 0 0, .slice A L.length c] rfl rfl 51 _ hb Zx rfl hone ?_)
   refine bodyPost_ret (results_cell_row (p := 6) Try.results30 _ _ q 51 _ (0, 0) _ rfl (HS6.out.at 1 rfl) hd rfl Zx) rfl ?_
   have hcap := (Yh (show World.ownsRow _ 0 68 2 (.slice A L.length c) L.length _ from HS6.out.at 2 rfl)).2
   obtain ⟨J2, Zd, hs7, hcl⟩ := HS6.out.drop.drop.ZR
   refine ⟨J2, ⟨8, x1, x2, 0, 0, 0, 0, [], ⟨#[]⟩, [], [], 0, 0, 0, [], L⟩, ⟨YA, YA, YA, YA, .slice A L.length c⟩, rfl, Zd, hs7, ⟨Y4.nil J2 _, Y4.nil J2 _, Y4.nil J2 _, Y4.nil J2 _, ⟨A, c, rfl, hcl, hcap⟩⟩, WA ⟨x1a, x1b⟩ ⟨x2a, x2b⟩ (by simp) (by simp) (by simp) (by simp) (by simp) (by simp) (by simp) (by simp) (by simp) (by simp) YZ.out.2.1 (Nat.zero_le _) (Nat.zero_le _) (Nat.zero_le _) (Nat.zero_le _) (by have := YZ.out.1; simp only []; omega) (Nat.zero_le _), .inl rfl, fun p hp => ?_⟩
   have h5 := (HF.out p hp).1
   rw [HE.out p hp] at h5
   exact h5
  have h0i : (0 : Int) < (ln : Int) := by omega
  cases bd
  ·skip
   have HPOS := VL (show 0 < rL.1.length from HLN.out.1 ▸ h0)
   have HM0 := VL (Wu HR.out HS.out)
   go_upto_region 39 with (first | (go_at_call 25; refine HLf.out.mono ?_; rintro e w3 ⟨rfl, hw⟩; subst hw) | (go_at_call 29; refine HBd.out.mono ?_; rintro e w3 ⟨rfl, hw⟩; subst hw))
   clear hcA hfA hlA
   have YV := VL (fun (M9 : List Zt) (w' : World) (hm : bk q 51 #[.int .i64 8, .int .u32 x1, .int .u32 x2, .int .u64 0, .int .u32 0, .int .u32 0, .int .u32 0, .slice none 0 0, .string ⟨#[]⟩, .slice none 0 0, .slice none 0 0, .int .u16 0, .int .u32 0, .int .u8 0, .slice none 0 0, .slice A L.length c] ∈ M9) (hs : St J0 M9 w') => (show w'.cell? ⟨q, 15, none⟩ = some (.slice A L.length c) from (ZO.all (hs.res _ hm)).1 15))
   refine YQ (S := fun w' => w'.cell? ⟨q, 15, none⟩ = some (.slice A L.length c)) (by kernel_rfl) (YV.out _ _ (by simp) HS.out.drew) (fun ZL => ?_)
   have YM := HS.out.drew
   clear HS
   generalize World.drew _ = W3 at YM ZL ⊢
   refine wt 0 1 rfl (by kernel_rfl) (fun _ _ _ h => h) rfl ‹_› (by intro w h;go_simp;try with_reducible rfl) ?_
   try go_frame
   refine wt 1 8 rfl (by kernel_rfl) (fun _ _ _ h => h) rfl ‹_› (by intro w h;go_simp;try with_reducible rfl) ?_
   try go_frame
   refine wt 2 3 rfl (by kernel_rfl) (fun _ _ _ h => h) rfl ‹_› (by intro w h;go_simp;try with_reducible rfl) ?_
   try go_frame
   refine wt 4 5 rfl (by kernel_rfl) (fun _ _ _ h => h) rfl ‹_› (by intro w h;go_simp;try with_reducible rfl) ?_
   try go_frame
   have HC := VL (Y1 (I := J0) p9 rL b YM HR.out)
   refine ZU (i := 3) (o := _) (by kernel_rfl) rfl (fun K hK => ?_)
   go_simp
   try clear ZL
   refine HC.out.mono ?_
   clear HC HR YM
   rintro e w3 ⟨_, _, _, rfl, _, YM, rfl, rfl, b, hR, rfl⟩
   obtain ⟨y1, hx⟩ : ∃ z, z = ((YP (Zl 4 rL).1 : Nat) : Int) := ⟨_, rfl⟩
   obtain ⟨r3, hr⟩ : ∃ z, z = (Zl 4 rL).2 := ⟨_, rfl⟩
   have Zw := YT 4 rL 4 (by decide)
   rw [<- hx] at Zw ⊢
   rw [<- hr] at hR
   obtain ⟨y1a, y1b⟩ := Zw
   have HL := VL (show r3.1.length <= 2000 from (by rw [hr]; exact Nat.le_trans (Ze 4 rL) HL.out))
   replace y1b : y1 <= 4294967295 := (by have h9 : ((256 ^ 4 : Nat) : Int) = 4294967296 := (by decide); omega)
   have HXy1 := VL (And.intro hx hr)
   have HR := VL hR
   clear hx hr hR
   refine hK.out _ _ (YV.out _ _ (by simp) YM) (fun ZL => ?_)
   clear hK K
   try go_frame
   have HC := VL (rd_u8 (I := J0) p9 r3 b YM HR.out)
   refine ZU (i := 5) (o := _) (by kernel_rfl) rfl (fun K hK => ?_)
   go_simp
   try clear ZL
   refine HC.out.mono ?_
   clear HC HR YM
   rintro e w4 ⟨_, _, _, rfl, _, YM, rfl, rfl, b, hR, rfl⟩
   obtain ⟨y2, hx⟩ : ∃ z, z = ((YP (Zl 1 r3).1 : Nat) : Int) := ⟨_, rfl⟩
   obtain ⟨r4, hr⟩ : ∃ z, z = (Zl 1 r3).2 := ⟨_, rfl⟩
   have Zw := YT 1 r3 1 (by decide)
   rw [<- hx] at Zw ⊢
   rw [<- hr] at hR
   obtain ⟨y2a, y2b⟩ := Zw
   have HL := VL (show r4.1.length <= 2000 from (by rw [hr]; exact Nat.le_trans (Ze 1 r3) HL.out))
   replace y2b : y2 <= 255 := (by have h9 : ((256 ^ 1 : Nat) : Int) = 256 := (by decide); omega)
   have HXy2 := VL (And.intro hx hr)
   have HR := VL hR
   clear hx hr hR
   refine hK.out _ _ (YV.out _ _ (by simp) YM) (fun ZL => ?_)
   clear hK K
   try go_frame
   refine wt 6 7 rfl (by kernel_rfl) (fun _ _ _ h => h) rfl ‹_› (by intro w h;go_simp;try with_reducible rfl) ?_
   try go_frame
   refine ZU (i := 7) (o := _) (by kernel_rfl) rfl (fun K hK => ?_)
   go_simp
   have Yu := YM.Yw (P := Try.prog) (t := 49) (e := 68) (cs := #[.int .u32 y1, .int .u8 y2]) (n := 1) (size := 2) rfl (by decide) Try.underlying49 (by simp [Value.oneCell'])
   have XE := (YM.grow (.cells #[.int .u32 y1, .int .u8 y2] 68)).Ya
   try clear ZL
   refine hK.out _ _ (YV.out _ _ (by simp) XE) (fun ZL => ?_)
   clear hK K
   try go_frame
   obtain ⟨i0, hi0, hz0, hz1, hz2⟩ := info_parts info68
   have WE := VL (show L.length <= 2001 from by have := YZ.out.1; omega)
   refine ZU (i := 8) (o := _) (by kernel_rfl) rfl (fun K hK => ?_)
   refine YU _ (by rfl) _ _ 49 49 (by rfl) 0 68 i0 (.agg #[.int .u32 0, .int .u8 0]) 2 8 Try.underlying49 hi0 hz0 hz1 hz2 rfl _ L.length (flat WO L) (by rfl) XE.head _ 1 _ (by rfl) Yu (by have := WE.out; unfold maxLen; omega) (by have := WE.out; omega) (Nat.zero_le _) ?_
   intro v' w5 Z9 Zr hat
   have Zb : w5.ownsRow 0 68 2 v' (L.length + 1) (flat WO (L ++ [(⟨y1, y2⟩ : Wn)])) := by rw [Z7]; exact Z9
   obtain ⟨A10, c10, rfl⟩ := ZW Zb
   have Zo := XE.grown Zr Zb (by simpa using hat)
   try clear ZL
   refine hK.out _ _ (YV.out _ _ (by simp) Zo) (fun ZL => ?_)
   clear hK K
   try go_frame
   refine wt 9 10 rfl (by kernel_rfl) (fun _ _ _ h => h) rfl ‹_› (by intro w h;go_simp;try with_reducible rfl) ?_
   try go_frame
   have HS6 := VL (show St J0 (b :: bk q 51 #[.int .i64 8, .int .u32 x1, .int .u32 x2, .int .u64 0, .int .u32 0, .int .u32 0, .int .u32 0, .slice none 0 0, .string ⟨#[]⟩, .slice none 0 0, .slice none 0 0, .int .u16 0, .int .u32 0, .int .u8 0, .slice none 0 0, .slice A10 (L.length + 1) c10] :: row 68 2 (.slice A10 (L.length + 1) c10) (L.length + 1) (flat WO (L ++ [(⟨y1, y2⟩ : Wn)])) :: M) (w5.setCell ⟨q, 15, none⟩ (.slice A10 (L.length + 1) c10)) from ((Zo.ZQ.set 15 (.slice A10 (L.length + 1) c10)).ZQ.Ya))
   obtain ⟨hp, fp, lp⟩ := ZO.all (Zo.at 1 rfl)
   refine Yi (i := 10) (o := _) (by kernel_rfl) rfl (by kernel_rfl) (by kernel_rfl) (fun K hK => ?_)
   go_simp
   try clear ZL
   refine hK.out _ _ ?_
   clear hK K
   try go_frame
   clear Zo Z9 Zb Zr hat Yu XE YM hp fp lp
   have HMS := VL (show mS r4 < mS rL from by
    have m0 : mS r3 < mS rL := by rw [HXy1.out.2]; exact mS_cut (by decide) HLN.out.2.symm
    have m1 : mS r4 <= mS r3 := by rw [HXy2.out.2]; exact VC
    omega)
   have HC := VL (rd_take (I := J0) p9 3 r4 b HS6.out HR.out (by decide) (by have := HL.out; omega))
   have HLr := VL (show (Zl 3 r4).2.1.length <= 2000 from Nat.le_trans (Ze 3 r4) HL.out)
   go_wp2_with fail
   go_at_call 27
   refine HC.out.mono ?_
   clear HC HR HS6
   rintro e w9 ⟨_, _, _, rfl, _, hs, rfl, A9, c9, b, rfl, hc9, hR, rfl⟩
   have HR := VL hR
   have HS6 := VL hs.drop
   have HMS := VL (Nat.lt_of_le_of_lt (VC (n := 3) (r := r4)) HMS.out)
   clear hs hR
   have HL := HLr
   go_wp2
   go_roundw
   case rel =>
    refine ⟨L ++ [(⟨y1, y2⟩ : Wn)], A10, c10, (Zl 3 r4).2, b, VL ⟨by rw [List.length_append]; exact HS6.out, HR.out, HL.out, ?_, ?_, ?_⟩⟩
    ·have h1 := YZ.out.1
     have h2 := HMS.out
     rw [List.length_append, List.length_singleton]
     omega
    ·intro x hx
     rcases List.mem_append.1 hx with hx | hx
     ·exact YZ.out.2.1 x hx
     rw [List.mem_singleton.1 hx]
     exact ⟨⟨y1a, y1b⟩, ⟨y2a, y2b⟩⟩
    intro p hp
    obtain ⟨t, h1, h2⟩ := YZ.out.2.2 p hp
    obtain ⟨h3, h4⟩ := HLN.out
    have h3 := congrArg List.length (congrArg Prod.fst h2)
    obtain ⟨y, t', ht', hby⟩ := Xx (by rw [<- h3]; exact HPOS.out)
    rw [hby] at h2
    have hyr := (HT.out p hp).2.1.ZB y (by rw [h1, ht']; simp)
    obtain ⟨he, h5⟩ := rdWn hyr h2 HXy1.out HXy2.out
    exact ⟨t', by rw [h1, ht', he]; simp, h5⟩
   case measure =>
    rw [Wu HR.out HS6.out, HM0.out]
    exact HMS.out
  go_upto_region 41 with (first | (go_at_call 25; refine HLf.out.mono ?_; rintro e w3 ⟨rfl, hw⟩; subst hw) | (go_at_call 29; refine HBd.out.mono ?_; rintro e w3 ⟨rfl, hw⟩; subst hw))
  have HE := VL (show ∀ p, T p -> p.ZB = L from fun p hp => by
   obtain ⟨t, h1, h2⟩ := YZ.out.2.2 p hp
   obtain ⟨h3, h4⟩ := HLN.out
   rw [h2] at h4
   cases h4)
  have hb : ZO wr q 51 #[.int .i64 8, .int .u32 x1, .int .u32 x2, .int .u64 0, .int .u32 0, .int .u32 0, .int .u32 0, .slice none 0 0, .string ⟨#[]⟩, .slice none 0 0, .slice none 0 0, .int .u16 0, .int .u32 0, .int .u8 0, .slice none 0 0, .slice A L.length c] := HS.out.at 1 rfl
  have hone : (#[.int .i64 8, .int .u32 x1, .int .u32 x2, .int .u64 0, .int .u32 0, .int .u32 0, .int .u32 0, .slice none 0 0, .string ⟨#[]⟩, .slice none 0 0, .slice none 0 0, .int .u16 0, .int .u32 0, .int .u8 0, .slice none 0 0, .slice A L.length c] : Array Value).all (·.oneCell') = true := by kernel_rfl
  have HS6 := VL (HS.out.YS #[.int .i64 8, .int .u32 x1, .int .u32 x2, .int .u64 0, .int .u32 0, .int .u32 0, .int .u32 0, .slice none 0 0, .string ⟨#[]⟩, .slice none 0 0, .slice none 0 0, .int .u16 0, .int .u32 0, .int .u8 0, .slice none 0 0, .slice A L.length c])
  go_wp2_with (first | refine wpList_load_row rfl 51 (.tmp 6) rfl q rfl 51 _ (0, 0) _ hb hd rfl Zx ?_ | refine wpList_store_row rfl 51 (.tmp 6) (.tmp _) rfl q #[.int .i64 8, .int .u32 x1, .int .u32 x2, .int .u64 0, .int .u32 0, .int .u32 0, .int .u32 0, .slice none 0 0, .string ⟨#[]⟩, .slice none 0 0, .slice none 0 0, .int .u16 0, .int .u32 0, .int .u8 0, .slice none 0 0, .slice A L.length c] rfl rfl 51 _ hb Zx rfl hone ?_)
  refine bodyPost_ret (results_cell_row (p := 6) Try.results30 _ _ q 51 _ (0, 0) _ rfl (HS6.out.at 1 rfl) hd rfl Zx) rfl ?_
  have hcap := (Yh (show World.ownsRow _ 0 68 2 (.slice A L.length c) L.length _ from HS6.out.at 2 rfl)).2
  obtain ⟨J2, Zd, hs7, hcl⟩ := HS6.out.drop.drop.ZR
  refine ⟨J2, ⟨8, x1, x2, 0, 0, 0, 0, [], ⟨#[]⟩, [], [], 0, 0, 0, [], L⟩, ⟨YA, YA, YA, YA, .slice A L.length c⟩, rfl, Zd, hs7, ⟨Y4.nil J2 _, Y4.nil J2 _, Y4.nil J2 _, Y4.nil J2 _, ⟨A, c, rfl, hcl, hcap⟩⟩, WA ⟨x1a, x1b⟩ ⟨x2a, x2b⟩ (by simp) (by simp) (by simp) (by simp) (by simp) (by simp) (by simp) (by simp) (by simp) (by simp) YZ.out.2.1 (Nat.zero_le _) (Nat.zero_le _) (Nat.zero_le _) (Nat.zero_le _) (by have := YZ.out.1; simp only []; omega) (Nat.zero_le _), .inl rfl, fun p hp => ?_⟩
  have h5 := (HF.out p hp).1
  rw [HE.out p hp] at h5
  exact h5
theorem readC (J0 : Zh) (M : List Zt) (w : World) (f s : Int) (p9 : Nat) (r : RS) (b : Zt) (T : Pk -> Prop) (hT : ∀ p, T p -> Good p /\ Y6 p /\ p.kind = XR f s /\ r = (YH (Zu p), false)) (hf : 0 <= f /\ f <= 255) (hl : r.1.length <= 2000) (ZX : St J0 (b :: M) w) (hR : Rdr J0 p9 r b) :
  Calls Try.prog 30 #[.int .u8 f, .int .u8 s, .pointer (some ⟨p9, 0, none⟩)] w (RdOk J0 M T) := by
 rcases kindP_ways f s with h | h | h | h | h | h | h | h | h
 ·exact read0 J0 M w f s p9 r b T (fun p hp => by rw [<- h]; exact hT p hp) h hf hl ZX hR
 ·exact read1 J0 M w f s p9 r b T (fun p hp => by rw [<- h]; exact hT p hp) h hf hl ZX hR
 ·exact read2 J0 M w f s p9 r b T (fun p hp => by rw [<- h]; exact hT p hp) h hf hl ZX hR
 ·exact read3 J0 M w f s p9 r b T (fun p hp => by rw [<- h]; exact hT p hp) h hf hl ZX hR
 ·exact read4 J0 M w f s p9 r b T (fun p hp => by rw [<- h]; exact hT p hp) h hf hl ZX hR
 ·exact read5 J0 M w f s p9 r b T (fun p hp => by rw [<- h]; exact hT p hp) h hf hl ZX hR
 ·exact read6 J0 M w f s p9 r b T (fun p hp => by rw [<- h]; exact hT p hp) h hf hl ZX hR
 ·exact read7 J0 M w f s p9 r b T (fun p hp => by rw [<- h]; exact hT p hp) h hf hl ZX hR
 exact read8 J0 M w f s p9 r b T (fun p hp => by rw [<- h]; exact hT p hp) h hf hl ZX hR
theorem kind_back {p : Pk} (hg : Good p) : XR (128 + XV p) (Z8 p.kind).1 = p.kind := by
 have hl := XB hg
 have hk := hg.1
 unfold YF at hk
 have hm : (128 + XV p) % 32 = XV p := by omega
 unfold XR XD
 rw [hm]
 unfold XV
 rcases (show p.kind = 1 \/ p.kind = 2 \/ p.kind = 3 \/ p.kind = 4 \/ p.kind = 5 \/ p.kind = 6 \/ p.kind = 7 \/ p.kind = 8 by omega) with h | h | h | h | h | h | h | h
 all_goals (rw [h]; simp [Z8])
end Go.Proofs.Ytddopbbmgpnjjaa
