/- part. -/
import Derived.Test.YtddopbbmgpnjjaaZT25
namespace Go.Proofs.Ytddopbbmgpnjjaa
set_option linter.unusedSimpArgs false
open Go.RowKit
set_option maxRecDepth 100000 in
set_option maxHeartbeats 20000000 in
theorem read5 (J0 : Zh) (M : List Zt) (w : World) (f s : Int) (p9 : Nat) (r : RS) (b : Zt) (T : Pk -> Prop) (hT : ∀ p, T p -> Good p /\ Y6 p /\ p.kind = 5 /\ r = (YH (Zu p), false)) (hk : XR f s = 5) (hf : 0 <= f /\ f <= 255) (hl : r.1.length <= 2000) (ZX : St J0 (b :: M) w) (hR : Rdr J0 p9 r b) :
  Calls Try.prog 30 #[.int .u8 f, .int .u8 s, .pointer (some ⟨p9, 0, none⟩)] w (RdOk J0 M T) := by
 have HT := VL hT
 have HK := kindC f s (w.alloc (.cells #[.int .i64 0, .int .u32 0, .int .u32 0, .int .u64 0, .int .u32 0, .int .u32 0, .int .u32 0, .slice none 0 0, .string ⟨#[]⟩, .slice none 0 0, .slice none 0 0, .int .u16 0, .int .u32 0, .int .u8 0, .slice none 0 0, .slice none 0 0] 51)) hf
 rw [hk] at HK
 have HK := VL HK
 have HR := VL hR
 have ZY := (ZX.alloc 51 #[.int .i64 0, .int .u32 0, .int .u32 0, .int .u64 0, .int .u32 0, .int .u32 0, .int .u32 0, .slice none 0 0, .string ⟨#[]⟩, .slice none 0 0, .slice none 0 0, .int .u16 0, .int .u32 0, .int .u8 0, .slice none 0 0, .slice none 0 0]).ZQ
 obtain ⟨q, hq⟩ : ∃ q, q = w.heap.size := ⟨_, rfl⟩
 rw [<- hq] at ZY
 have HL := VL hl
 clear hT hk hR ZX hl
 obtain ⟨fs, hd⟩ := st51D
 go_enter Try.func30, Try.ntmps30
 go_upto_region 1 with fail
 rw [<- hq]
 clear hq
 generalize World.alloc w _ = W at ZY HK ⊢
 have HS := VL ZY
 clear ZY
 obtain ⟨hcA, hfA, hlA⟩ := ZO.all (HS.out.at 1 rfl)
 go_wp2_with fail
 go_at_call 61
 refine HK.out.mono ?_
 clear HK
 rintro e w0 ⟨rfl, hw⟩
 subst hw
 have hs9 : St J0 (b :: bk q 51 #[.int .i64 5, .int .u32 0, .int .u32 0, .int .u64 0, .int .u32 0, .int .u32 0, .int .u32 0, .slice none 0 0, .string ⟨#[]⟩, .slice none 0 0, .slice none 0 0, .int .u16 0, .int .u32 0, .int .u8 0, .slice none 0 0, .slice none 0 0] :: M) ((W).setCell ⟨q, 0, none⟩ (.int .i64 5)) := (HS.out.ZQ.set 0 (.int .i64 5)).ZQ
 have HS := VL hs9
 clear hs9
 obtain ⟨hcB, hfB, hlB⟩ := ZO.all (HS.out.at 1 rfl)
 have HC := VL (Y1 (I := J0) p9 r b HS.out HR.out)
 go_wp2_with fail
 go_at_call 62
 refine HC.out.mono ?_
 clear HC HS HR hcA hfA hlA
 try clear hcB hfB hlB
 rintro e w1 ⟨_, _, _, rfl, _, hs, rfl, rfl, b, hR, rfl⟩
 obtain ⟨x1, hx⟩ : ∃ z, z = ((YP (Zl 4 r).1 : Nat) : Int) := ⟨_, rfl⟩
 obtain ⟨r1, hr⟩ : ∃ z, z = (Zl 4 r).2 := ⟨_, rfl⟩
 have Zw := YT 4 r 4 (by decide)
 rw [<- hx] at Zw ⊢
 rw [<- hr] at hR
 obtain ⟨x1a, x1b⟩ := Zw
 have HL := VL (show r1.1.length <= 2000 from (by rw [hr]; exact Nat.le_trans (Ze 4 r) HL.out))
 replace x1b : x1 <= 4294967295 := (by have h9 : ((256 ^ 4 : Nat) : Int) = 4294967296 := (by decide); omega)
 have HXx1 := VL (And.intro hx hr)
 have HS := VL hs
 have HR := VL hR
 clear hx hr hs hR
 obtain ⟨hcA, hfA, hlA⟩ := ZO.all (HS.out.at 1 rfl)
 have hs9 : St J0 (b :: bk q 51 #[.int .i64 5, .int .u32 x1, .int .u32 0, .int .u64 0, .int .u32 0, .int .u32 0, .int .u32 0, .slice none 0 0, .string ⟨#[]⟩, .slice none 0 0, .slice none 0 0, .int .u16 0, .int .u32 0, .int .u8 0, .slice none 0 0, .slice none 0 0] :: M) ((w1).setCell ⟨q, 1, none⟩ (.int .u32 x1)) := (HS.out.ZQ.set 1 (.int .u32 x1)).ZQ
 have HS := VL hs9
 clear hs9
 obtain ⟨hcB, hfB, hlB⟩ := ZO.all (HS.out.at 1 rfl)
 have HC := VL (Y1 (I := J0) p9 r1 b HS.out HR.out)
 go_wp2_with fail
 go_at_call 62
 refine HC.out.mono ?_
 clear HC HS HR hcA hfA hlA
 try clear hcB hfB hlB
 rintro e w2 ⟨_, _, _, rfl, _, hs, rfl, rfl, b, hR, rfl⟩
 obtain ⟨x2, hx⟩ : ∃ z, z = ((YP (Zl 4 r1).1 : Nat) : Int) := ⟨_, rfl⟩
 obtain ⟨r2, hr⟩ : ∃ z, z = (Zl 4 r1).2 := ⟨_, rfl⟩
 have Zw := YT 4 r1 4 (by decide)
 rw [<- hx] at Zw ⊢
 rw [<- hr] at hR
 obtain ⟨x2a, x2b⟩ := Zw
 have HL := VL (show r2.1.length <= 2000 from (by rw [hr]; exact Nat.le_trans (Ze 4 r1) HL.out))
 replace x2b : x2 <= 4294967295 := (by have h9 : ((256 ^ 4 : Nat) : Int) = 4294967296 := (by decide); omega)
 have HXx2 := VL (And.intro hx hr)
 have HS := VL hs
 have HR := VL hR
 clear hx hr hs hR
 obtain ⟨hcA, hfA, hlA⟩ := ZO.all (HS.out.at 1 rfl)
 have hs9 : St J0 (b :: bk q 51 #[.int .i64 5, .int .u32 x1, .int .u32 x2, .int .u64 0, .int .u32 0, .int .u32 0, .int .u32 0, .slice none 0 0, .string ⟨#[]⟩, .slice none 0 0, .slice none 0 0, .int .u16 0, .int .u32 0, .int .u8 0, .slice none 0 0, .slice none 0 0] :: M) ((w2).setCell ⟨q, 2, none⟩ (.int .u32 x2)) := (HS.out.ZQ.set 2 (.int .u32 x2)).ZQ
 have HS := VL hs9
 clear hs9
 obtain ⟨hcB, hfB, hlB⟩ := ZO.all (HS.out.at 1 rfl)
 have HF := VL (show ∀ p, T p -> (⟨5, x1, x2, 0, 0, 0, 0, [], ⟨#[]⟩, [], p.ZH, 0, 0, 0, [], []⟩ : Pk) = p /\ r2 = ((XA p.ZH).flatMap XJ, false) /\ Ord p.ZH /\ Rng p.ZH from fun p hp => by
  obtain ⟨hg, hok, hk, hr⟩ := HT.out p hp
  obtain ⟨h1, h2⟩ := shape5 hg hk
  have ho : Ord p.ZH := by
   have := hg.1
   unfold YF at this
   rcases this with h | h | h | h | h | h | h
   all_goals first | exact h.2.1 | (exfalso; omega)
  rw [h2] at hr
  obtain ⟨h3, hr⟩ := YY HXx1.out hok.ZA hr
  obtain ⟨h4, hr6⟩ := YY HXx2.out hok.ZC hr
  have hrg := hok.ZH
  rw [h3, h4, <- h1]
  exact ⟨rfl, hr6, ho, hrg⟩)
 go_upto_region 17 with fail
 generalize World.setCell _ _ _ = W2 at HS hcB hfB hlB ⊢
 have Yu := (HS.out.nil (e := 42) (size := 1)).up12
 clear HS
 have HS := VL Yu
 clear Yu
 try clear hcA hfA hlA
 clear hcB hfB hlB
 go_loopw [] (fun wr => ∃ (L : List Int) (A : Option Addr) (c : Nat) (rL : RS) (b9 : Zt), Hid (St J0 (b9 :: bk q 51 #[.int .i64 5, .int .u32 x1, .int .u32 x2, .int .u64 0, .int .u32 0, .int .u32 0, .int .u32 0, .slice none 0 0, .string ⟨#[]⟩, .slice none 0 0, .slice A L.length c, .int .u16 0, .int .u32 0, .int .u8 0, .slice none 0 0, .slice none 0 0] :: row 42 1 (.slice A L.length c) L.length (flat Yp L) :: M) wr /\ Rdr J0 p9 rL b9 /\ rL.1.length <= 2000 /\ L.length + 17 * mS rL <= 34017 /\ Rng L /\ ∀ p, T p -> ∃ dn t, XA p.ZH = dn ++ t /\ L = dn.flatMap (fun x => expK x.1 x.2 16) /\ rL = (t.flatMap XJ, false))) (fun wr => rdM wr p9)
 case atStart => exact ⟨[], none, 0, r2, b, VL ⟨HS.out, HR.out, HL.out, by have := mS_lt HL.out; simp only [List.length_nil]; omega, (fun x hx => by cases hx), fun p hp => ⟨[], XA p.ZH, rfl, rfl, (HF.out p hp).2.1⟩⟩⟩
 case round =>
  obtain ⟨L, A, c, rL, b, hh⟩ := hrel
  obtain ⟨hs, hR, hl9, hlen, Yf, ht⟩ := hh.out
  clear hh HS HR HL
  have HS := VL hs
  have HR := VL hR
  have HL := VL hl9
  have YZ := VL (And.intro hlen (And.intro Yf ht))
  have WE := VL (show L.length <= 34017 by omega)
  clear hs hR hl9 hlen Yf ht
  obtain ⟨hcA, hfA, hlA⟩ := ZO.all (HS.out.at 1 rfl)
  have HLf := VL (Wi (I := J0) p9 rL b HS.out HR.out)
  have HBd := VL (WY (I := J0) p9 rL b HS.out HR.out)
  obtain ⟨ln, hln⟩ : ∃ n, n = rL.1.length := ⟨_, rfl⟩
  obtain ⟨bd, hbd⟩ : ∃ x, x = rL.2 := ⟨_, rfl⟩
  rw [<- hln] at HLf
  rw [<- hbd] at HBd
  have HLN := VL (And.intro hln hbd)
  clear hln hbd
  rcases Nat.eq_zero_or_pos ln with h0 | h0
  ·subst h0
   go_upto_region 41 with (go_at_call 25; refine HLf.out.mono ?_; rintro e w3 ⟨rfl, hw⟩; subst hw)
   have HE := VL (show ∀ p, T p -> p.ZH = L from fun p hp => by
    obtain ⟨dn, t, h1, h0, h2⟩ := YZ.out.2.2 p hp
    obtain ⟨h3, h4⟩ := HLN.out
    rw [h2] at h3
    rw [VJ (fun x => by show 0 < (Zi x.1 ++ Zi x.2).length; simp [Zz]) h3.symm, List.append_nil] at h1
    rw [h0, <- h1]
    exact (pieces_back (HF.out p hp).2.2.1 (HF.out p hp).2.2.2).symm)
   rcases Nat.eq_zero_or_pos L.length with hz | hz
   ·obtain rfl : L = [] := List.length_eq_zero_iff.1 hz
    clear hz
    have hnn : (#[.int .i64 5, .int .u32 x1, .int .u32 x2, .int .u64 0, .int .u32 0, .int .u32 0, .int .u32 0, .slice none 0 0, .string ⟨#[]⟩, .slice none 0 0, .slice A 0 c, .int .u16 0, .int .u32 0, .int .u8 0, .slice none 0 0, .slice none 0 0] : Array Value) = #[.int .i64 5, .int .u32 x1, .int .u32 x2, .int .u64 0, .int .u32 0, .int .u32 0, .int .u32 0, .slice none 0 0, .string ⟨#[]⟩, .slice none 0 0, .slice A 0 c, .int .u16 0, .int .u32 0, .int .u8 0, .slice none 0 0, .slice none 0 0] := rfl
    have hb : ZO wr q 51 #[.int .i64 5, .int .u32 x1, .int .u32 x2, .int .u64 0, .int .u32 0, .int .u32 0, .int .u32 0, .slice none 0 0, .string ⟨#[]⟩, .slice none 0 0, .slice A 0 c, .int .u16 0, .int .u32 0, .int .u8 0, .slice none 0 0, .slice none 0 0] := HS.out.at 1 rfl
    have hone : (#[.int .i64 5, .int .u32 x1, .int .u32 x2, .int .u64 0, .int .u32 0, .int .u32 0, .int .u32 0, .slice none 0 0, .string ⟨#[]⟩, .slice none 0 0, .slice A 0 c, .int .u16 0, .int .u32 0, .int .u8 0, .slice none 0 0, .slice none 0 0] : Array Value).all (·.oneCell') = true := by kernel_rfl
    have HS6 := VL (HS.out.YS #[.int .i64 5, .int .u32 x1, .int .u32 x2, .int .u64 0, .int .u32 0, .int .u32 0, .int .u32 0, .slice none 0 0, .string ⟨#[]⟩, .slice none 0 0, .slice A 0 c, .int .u16 0, .int .u32 0, .int .u8 0, .slice none 0 0, .slice none 0 0])
    go_wp2_with (first | refine wpList_load_row rfl 51 (.tmp 6) rfl q rfl 51 _ (0, 0) _ hb hd rfl Zx ?_ | refine wpList_store_row rfl 51 (.tmp 6) (.tmp _) rfl q #[.int .i64 5, .int .u32 x1, .int .u32 x2, .int .u64 0, .int .u32 0, .int .u32 0, .int .u32 0, .slice none 0 0, .string ⟨#[]⟩, .slice none 0 0, .slice A 0 c, .int .u16 0, .int .u32 0, .int .u8 0, .slice none 0 0, .slice none 0 0] rfl rfl 51 _ hb Zx rfl hone ?_)
    refine bodyPost_ret (results_cell_row (p := 6) Try.results30 _ _ q 51 _ (0, 0) _ rfl (HS6.out.at 1 rfl) hd rfl Zx) rfl ?_
    refine ⟨J0, ⟨5, x1, x2, 0, 0, 0, 0, [], ⟨#[]⟩, [], [], 0, 0, 0, [], []⟩, ⟨YA, YA, .slice A 0 c, YA, YA⟩, rfl, .refl J0, HS6.out.drop.drop.drop, ⟨Y4.nil J0 _, Y4.nil J0 _, ⟨A, c, rfl, Cells.nil _ _, Nat.zero_le _⟩, Y4.nil J0 _, Y4.nil J0 _⟩, WA ⟨x1a, x1b⟩ ⟨x2a, x2b⟩ (by simp) (by simp) (by simp) (by simp) (by simp) (by simp) (by simp) (by simp) (by simp) (by simp) (by simp) (Nat.zero_le _) (Nat.zero_le _) (Nat.zero_le _) (Nat.zero_le _) (Nat.zero_le _) (Nat.zero_le _), .inl rfl, fun p hp => ?_⟩
    have h5 := (HF.out p hp).1
    rw [HE.out p hp] at h5
    exact h5
   have hzi : (0 : Int) < (L.length : Int) := by omega
   obtain ⟨g, cur, eA, hg, -⟩ := HS.out.Ya.rowBk (by rw [XK (s := 1) (fun _ => rfl)]; omega)
   subst eA
   have Yu : Y8 J0 (bk q 51 #[.int .i64 5, .int .u32 x1, .int .u32 x2, .int .u64 0, .int .u32 0, .int .u32 0, .int .u32 0, .slice none 0 0, .string ⟨#[]⟩, .slice none 0 0, .slice (some ⟨g, 0, none⟩) L.length c, .int .u16 0, .int .u32 0, .int .u8 0, .slice none 0 0, .slice none 0 0] :: b :: M) g c 0 0 L wr \/ True := .inr trivial
   clear Yu
   obtain ⟨L0, hL0⟩ : ∃ x, x = L[0] := ⟨_, rfl⟩
   have hc0 : wr.cell? ⟨g, 0, none⟩ = some (.int .u16 L0) := by
    obtain ⟨g', cur', e1, hg', hlc, hcm, hcs, hct, hs⟩ := HS.out.Ya.rowBk (by rw [XK (s := 1) (fun _ => rfl)]; omega)
    injection e1 with e1
    injection e1 with e1
    subst e1
    rw [(show ZO wr _ 42 cur' from hs.at 0 rfl).cell 0, hL0]
    exact row_first hct hz
   have HL0 := VL hL0
   clear hL0
   have ZY := HS.out.alloc 42 #[.int .u16 L0]
   obtain ⟨q8, hq8⟩ : ∃ q, q = wr.heap.size := ⟨_, rfl⟩
   rw [<- hq8] at ZY
   clear HS
   have HS := VL ZY.rowUp3
   clear ZY
   go_upto_region 43 with fail
   rw [<- hq8]
   clear hq8 hcA hfA hlA hc0
   generalize World.alloc wr _ = W4 at HS ⊢
   have HSC := VL (sortC J0 (b :: bk q 51 #[.int .i64 5, .int .u32 x1, .int .u32 x2, .int .u64 0, .int .u32 0, .int .u32 0, .int .u32 0, .slice none 0 0, .string ⟨#[]⟩, .slice none 0 0, .slice (some ⟨g, 0, none⟩) L.length c, .int .u16 0, .int .u32 0, .int .u8 0, .slice none 0 0, .slice none 0 0] :: M) W4 g c q8 L0 L (by have := WE.out; omega) YZ.out.2.1 HS.out)
   obtain ⟨hcA, hfA, hlA⟩ := ZO.all (HS.out.at 3 rfl)
   go_wp2_with fail
   go_at_call 64
   refine HSC.out.mono ?_
   clear HSC HS hcA hfA hlA
   rintro e W6 ⟨rfl, l', hkp, hs⟩
   have hln := hkp.len
   have HKP := VL hkp
   clear hkp
   unfold Y8 at hs
   rw [hln] at hs
   have HS := VL (show St J0 (b :: bk q 51 #[.int .i64 5, .int .u32 x1, .int .u32 x2, .int .u64 0, .int .u32 0, .int .u32 0, .int .u32 0, .slice none 0 0, .string ⟨#[]⟩, .slice none 0 0, .slice (some ⟨g, 0, none⟩) L.length c, .int .u16 0, .int .u32 0, .int .u8 0, .slice none 0 0, .slice none 0 0] :: row 42 1 (.slice (some ⟨g, 0, none⟩) L.length c) L.length (flat Yp l') :: M) W6 from hs.ZQ.drop.up12)
   have HLN2 := VL hln
   clear hs hln
   have hb : ZO W6 q 51 #[.int .i64 5, .int .u32 x1, .int .u32 x2, .int .u64 0, .int .u32 0, .int .u32 0, .int .u32 0, .slice none 0 0, .string ⟨#[]⟩, .slice none 0 0, .slice (some ⟨g, 0, none⟩) L.length c, .int .u16 0, .int .u32 0, .int .u8 0, .slice none 0 0, .slice none 0 0] := HS.out.at 1 rfl
   have hone : (#[.int .i64 5, .int .u32 x1, .int .u32 x2, .int .u64 0, .int .u32 0, .int .u32 0, .int .u32 0, .slice none 0 0, .string ⟨#[]⟩, .slice none 0 0, .slice (some ⟨g, 0, none⟩) L.length c, .int .u16 0, .int .u32 0, .int .u8 0, .slice none 0 0, .slice none 0 0] : Array Value).all (·.oneCell') = true := by kernel_rfl
   have HS6 := VL (HS.out.YS #[.int .i64 5, .int .u32 x1, .int .u32 x2, .int .u64 0, .int .u32 0, .int .u32 0, .int .u32 0, .slice none 0 0, .string ⟨#[]⟩, .slice none 0 0, .slice (some ⟨g, 0, none⟩) L.length c, .int .u16 0, .int .u32 0, .int .u8 0, .slice none 0 0, .slice none 0 0])
   go_wp2_with (first | refine wpList_load_row rfl 51 (.tmp 6) rfl q rfl 51 _ (0, 0) _ hb hd rfl Zx ?_ | refine wpList_store_row rfl 51 (.tmp 6) (.tmp _) rfl q #[.int .i64 5, .int .u32 x1, .int .u32 x2, .int .u64 0, .int .u32 0, .int .u32 0, .int .u32 0, .slice none 0 0, .string ⟨#[]⟩, .slice none 0 0, .slice (some ⟨g, 0, none⟩) L.length c, .int .u16 0, .int .u32 0, .int .u8 0, .slice none 0 0, .slice none 0 0] rfl rfl 51 _ hb Zx rfl hone ?_)
   refine bodyPost_ret (results_cell_row (p := 6) Try.results30 _ _ q 51 _ (0, 0) _ rfl (HS6.out.at 1 rfl) hd rfl Zx) rfl ?_
   have hcap := (Yh (show World.ownsRow _ 0 42 1 (.slice (some ⟨g, 0, none⟩) L.length c) L.length _ from HS6.out.at 2 rfl)).2
   obtain ⟨J2, Zd, hs7, hcl, hnew⟩ := HS6.out.drop.drop.freezeRowN (by rw [XK (s := 1) (fun _ => rfl), HLN2.out]; omega)
   refine ⟨J2, ⟨5, x1, x2, 0, 0, 0, 0, [], ⟨#[]⟩, [], l', 0, 0, 0, [], []⟩, ⟨YA, YA, .slice (some ⟨g, 0, none⟩) L.length c, YA, YA⟩, rfl, Zd, hs7, ⟨Y4.nil J2 _, Y4.nil J2 _, ⟨some ⟨g, 0, none⟩, c, by rw [HLN2.out], hcl, by rw [HLN2.out]; exact hcap⟩, Y4.nil J2 _, Y4.nil J2 _⟩, WA ⟨x1a, x1b⟩ ⟨x2a, x2b⟩ (by simp) (by simp) (by simp) (by simp) (by simp) (by simp) HKP.out.rng (by simp) (by simp) (by simp) (by simp) (Nat.zero_le _) (Nat.zero_le _) (by have := HLN2.out; have := WE.out; simp only []; omega) (Nat.zero_le _) (Nat.zero_le _) (Nat.zero_le _), .inr hnew, fun p hp => ?_⟩
   have h5 := (HF.out p hp).1
   have h6 := (HF.out p hp).2.2.1
   rw [HE.out p hp] at h5 h6
   have h7 := HKP.out.same (HL0.out ▸ ord_sort h6 hz)
   rw [h7]
   exact h5
  have h0i : (0 : Int) < (ln : Int) := by omega
  cases bd
  ·skip
   have HPOS := VL (show 0 < rL.1.length from HLN.out.1 ▸ h0)
   have HM0 := VL (Wu HR.out HS.out)
   go_upto_region 30 with (first | (go_at_call 25; refine HLf.out.mono ?_; rintro e w3 ⟨rfl, hw⟩; subst hw) | (go_at_call 29; refine HBd.out.mono ?_; rintro e w3 ⟨rfl, hw⟩; subst hw))
   have HC := VL (rd_u16 (I := J0) p9 rL b HS.out HR.out)
   go_wp2_with fail
   go_at_call 28
   refine HC.out.mono ?_
   clear HC HS HR hcA hfA hlA
   try clear hcB hfB hlB
   rintro e w3 ⟨_, _, _, rfl, _, hs, rfl, rfl, b, hR, rfl⟩
   obtain ⟨s, hx⟩ : ∃ z, z = ((YP (Zl 2 rL).1 : Nat) : Int) := ⟨_, rfl⟩
   obtain ⟨r3, hr⟩ : ∃ z, z = (Zl 2 rL).2 := ⟨_, rfl⟩
   have Zw := YT 2 rL 2 (by decide)
   rw [<- hx] at Zw ⊢
   rw [<- hr] at hR
   obtain ⟨sa, sb⟩ := Zw
   have HL := VL (show r3.1.length <= 2000 from (by rw [hr]; exact Nat.le_trans (Ze 2 rL) HL.out))
   replace sb : s <= 65535 := (by have h9 : ((256 ^ 2 : Nat) : Int) = 65536 := (by decide); omega)
   have HXs := VL (And.intro hx hr)
   have HS := VL hs
   have HR := VL hR
   clear hx hr hs hR
   obtain ⟨hcA, hfA, hlA⟩ := ZO.all (HS.out.at 1 rfl)
   have HC := VL (rd_u16 (I := J0) p9 r3 b HS.out HR.out)
   go_wp2_with fail
   go_at_call 28
   refine HC.out.mono ?_
   clear HC HS HR hcA hfA hlA
   try clear hcB hfB hlB
   rintro e w4 ⟨_, _, _, rfl, _, hs, rfl, rfl, b, hR, rfl⟩
   obtain ⟨m, hx⟩ : ∃ z, z = ((YP (Zl 2 r3).1 : Nat) : Int) := ⟨_, rfl⟩
   obtain ⟨r4, hr⟩ : ∃ z, z = (Zl 2 r3).2 := ⟨_, rfl⟩
   have Zw := YT 2 r3 2 (by decide)
   rw [<- hx] at Zw ⊢
   rw [<- hr] at hR
   obtain ⟨ma, mb⟩ := Zw
   have HL := VL (show r4.1.length <= 2000 from (by rw [hr]; exact Nat.le_trans (Ze 2 r3) HL.out))
   replace mb : m <= 65535 := (by have h9 : ((256 ^ 2 : Nat) : Int) = 65536 := (by decide); omega)
   have HXm := VL (And.intro hx hr)
   have HS := VL hs
   have HR := VL hR
   clear hx hr hs hR
   obtain ⟨hcA, hfA, hlA⟩ := ZO.all (HS.out.at 1 rfl)
   go_upto_region 31 with fail
   have Yu := HS.out.Yw (P := Try.prog) (t := 44) (e := 42) (cs := #[.int .u16 s]) (n := 1) (size := 1) rfl (by decide) Try.underlying44 (by simp [Value.oneCell'])
   have XE := (HS.out.grow (.cells #[.int .u16 s] 42)).Ya
   obtain ⟨i0, hi0, hz0, hz1, hz2⟩ := info_parts info42
   go_wp2_with (at_builtin; refine Zj _ rfl _ _ 44 44 rfl 0 42 i0 _ 1 2 Try.underlying44 hi0 hz0 hz1 hz2 rfl _ L.length (flat Yp L) rfl XE.head _ 1 _ rfl Yu (by have := WE.out; unfold maxLen; omega) (by have := WE.out; omega) (Nat.zero_le _) ?_)
   intro v' w5 Z9 Zr hat
   have Zb : w5.ownsRow 0 42 1 v' (L.length + 1) (flat Yp (L ++ [s])) := by rw [Z7]; exact Z9
   obtain ⟨A10, c10, rfl⟩ := ZW Zb
   have Zo := XE.grown Zr Zb (by simpa using hat)
   have HS6 := VL (show St J0 (b :: bk q 51 #[.int .i64 5, .int .u32 x1, .int .u32 x2, .int .u64 0, .int .u32 0, .int .u32 0, .int .u32 0, .slice none 0 0, .string ⟨#[]⟩, .slice none 0 0, .slice A10 (L.length + 1) c10, .int .u16 0, .int .u32 0, .int .u8 0, .slice none 0 0, .slice none 0 0] :: row 42 1 (.slice A10 (L.length + 1) c10) (L.length + 1) (flat Yp (L ++ [s])) :: M) (w5.setCell ⟨q, 10, none⟩ (.slice A10 (L.length + 1) c10)) from ((Zo.ZQ.set 10 (.slice A10 (L.length + 1) c10)).ZQ.Ya))
   clear HS
   obtain ⟨hcp, hfp, hlp⟩ := ZO.all (Zo.at 1 rfl)
   clear Zo Z9 Zb Zr hat Yu XE hcA hfA hlA
   have HMS := VL (show mS r4 < mS rL from by
    have m0 : mS r3 < mS rL := by rw [HXs.out.2]; exact mS_cut (by decide) HLN.out.2.symm
    have m1 : mS r4 <= mS r3 := by rw [HXm.out.2]; exact VC
    omega)
   go_upto_region 33 with fail
   clear hcp hfp hlp
   go_loopw [133] (fun kv wr' => ∃ (k : Nat) (A1 : Option Addr) (c1 : Nat) (L2 : List Int), kv = .int .u16 k /\ k <= 16 /\ Hid (L2 = L ++ expK s m k /\ St J0 (b :: bk q 51 #[.int .i64 5, .int .u32 x1, .int .u32 x2, .int .u64 0, .int .u32 0, .int .u32 0, .int .u32 0, .slice none 0 0, .string ⟨#[]⟩, .slice none 0 0, .slice A1 L2.length c1, .int .u16 0, .int .u32 0, .int .u8 0, .slice none 0 0, .slice none 0 0] :: row 42 1 (.slice A1 L2.length c1) L2.length (flat Yp L2) :: M) wr')) (fun kv _ => 16 - (intOf kv).toNat)
   case atStart => exact ⟨0, A10, c10, L ++ [s], rfl, by omega, VL ⟨rfl, by rw [List.length_append]; exact HS6.out⟩⟩
   case round =>
    obtain ⟨k, A1, c1, L2, rfl, hk, hh⟩ := hrel
    obtain ⟨hL2, hs⟩ := hh.out
    have HS := VL hs
    have HL2 := VL hL2
    have HB2 := VL (show L2.length <= 34034 by rw [hL2, List.length_append]; have := expK_len s m k; have := WE.out; omega)
    clear hh HS6 hs hL2
    obtain ⟨hcA, hfA, hlA⟩ := ZO.all (HS.out.at 1 rfl)
    by_cases Z0 : k < 16
    ·have hki : (k : Int) < 16 := by omega
     have Wo := bit_test ma mb k
     have hsk := exp_num sa sb Z0
     cases hbk : bitB m k
     ·have HBK := VL hbk
      rw [hbk] at Wo
      simp only [Bool.false_eq_true, if_false] at Wo
      clear hbk
      go_wp2
      go_roundw
      case rel => exact ⟨k + 1, A1, c1, L2, by go_num, by omega, VL ⟨by rw [expK_succ, HBK.out]; exact HL2.out, HS.out⟩⟩
      case measure => simp [intOf]; omega
     have HBK := VL hbk
     rw [hbk] at Wo
     simp only [if_true] at Wo
     clear hbk
     go_upto_region 36 with fail
     have Yu := HS.out.Yw (P := Try.prog) (t := 44) (e := 42) (cs := #[.int .u16 ((s + (k : Int) + 1) % 65536)]) (n := 1) (size := 1) rfl (by decide) Try.underlying44 (by simp [Value.oneCell'])
     have XE := (HS.out.grow (.cells #[.int .u16 ((s + (k : Int) + 1) % 65536)] 42)).Ya
     obtain ⟨i0, hi0, hz0, hz1, hz2⟩ := info_parts info42
     go_wp2_with (at_builtin; refine Zj _ rfl _ _ 44 44 rfl 0 42 i0 _ 1 2 Try.underlying44 hi0 hz0 hz1 hz2 rfl _ L2.length (flat Yp L2) rfl XE.head _ 1 _ rfl Yu (by have := HB2.out; unfold maxLen; omega) (by have := HB2.out; omega) (Nat.zero_le _) ?_)
     intro v' w5 Z9 Zr hat
     have Zb : w5.ownsRow 0 42 1 v' (L2.length + 1) (flat Yp (L2 ++ [((s + (k : Int) + 1) % 65536)])) := by rw [Z7]; exact Z9
     obtain ⟨A10, c10, rfl⟩ := ZW Zb
     have Zo := XE.grown Zr Zb (by simpa using hat)
     have HS6 := VL (show St J0 (b :: bk q 51 #[.int .i64 5, .int .u32 x1, .int .u32 x2, .int .u64 0, .int .u32 0, .int .u32 0, .int .u32 0, .slice none 0 0, .string ⟨#[]⟩, .slice none 0 0, .slice A10 (L2.length + 1) c10, .int .u16 0, .int .u32 0, .int .u8 0, .slice none 0 0, .slice none 0 0] :: row 42 1 (.slice A10 (L2.length + 1) c10) (L2.length + 1) (flat Yp (L2 ++ [((s + (k : Int) + 1) % 65536)])) :: M) (w5.setCell ⟨q, 10, none⟩ (.slice A10 (L2.length + 1) c10)) from ((Zo.ZQ.set 10 (.slice A10 (L2.length + 1) c10)).ZQ.Ya))
     clear HS
     obtain ⟨hcp, hfp, hlp⟩ := ZO.all (Zo.at 1 rfl)
     clear Zo Z9 Zb Zr hat Yu XE hcA hfA hlA
     have hk9 : (k : Int) + 1 <= 16 := by omega
     go_wp2
     go_roundw
     case rel => exact ⟨k + 1, A10, c10, L2 ++ [(s + (k : Int) + 1) % 65536], by go_num, by omega, VL ⟨by rw [expK_succ, HBK.out, HL2.out, List.append_assoc]; rfl, by rw [List.length_append]; exact HS6.out⟩⟩
     case measure => simp [intOf]; omega
    obtain rfl : k = 16 := by omega
    go_wp2
    go_roundw
    case rel =>
     refine ⟨L2, A1, c1, r4, b, VL ⟨HS.out, HR.out, HL.out, ?_, ?_, ?_⟩⟩
     ·have h1 := YZ.out.1
      have h2 := HMS.out
      have h3 := expK_len s m 16
      rw [HL2.out, List.length_append]
      omega
     ·intro x hx
      rw [HL2.out] at hx
      rcases List.mem_append.1 hx with hx | hx
      ·exact YZ.out.2.1 x hx
      exact expK_rng ⟨sa, sb⟩ 16 x hx
     intro p hp
     obtain ⟨dn, t, h1, h0, h2⟩ := YZ.out.2.2 p hp
     have h3 := congrArg List.length (congrArg Prod.fst h2)
     obtain ⟨y, t', ht', hby⟩ := Xx (by rw [<- h3]; exact HPOS.out)
     rw [hby] at h2
     have hyr := pieces_rng _ _ (Nat.le_refl _) (HF.out p hp).2.2.2 y (by rw [h1, ht']; simp)
     obtain ⟨he, h5⟩ := rdPc hyr h2 HXs.out HXm.out
     exact ⟨dn ++ [y], t', by rw [h1, ht']; simp, by rw [HL2.out, h0, List.flatMap_append, he]; simp, h5⟩
    case measure =>
     rw [Wu HR.out HS.out, HM0.out]
     exact HMS.out
  go_upto_region 41 with (first | (go_at_call 25; refine HLf.out.mono ?_; rintro e w3 ⟨rfl, hw⟩; subst hw) | (go_at_call 29; refine HBd.out.mono ?_; rintro e w3 ⟨rfl, hw⟩; subst hw))
  have HE := VL (show ∀ p, T p -> p.ZH = L from fun p hp => by
   obtain ⟨dn, t, h1, h0, h2⟩ := YZ.out.2.2 p hp
   obtain ⟨h3, h4⟩ := HLN.out
   rw [h2] at h4
   cases h4)
  rcases Nat.eq_zero_or_pos L.length with hz | hz
  ·obtain rfl : L = [] := List.length_eq_zero_iff.1 hz
   clear hz
   have hnn : (#[.int .i64 5, .int .u32 x1, .int .u32 x2, .int .u64 0, .int .u32 0, .int .u32 0, .int .u32 0, .slice none 0 0, .string ⟨#[]⟩, .slice none 0 0, .slice A 0 c, .int .u16 0, .int .u32 0, .int .u8 0, .slice none 0 0, .slice none 0 0] : Array Value) = #[.int .i64 5, .int .u32 x1, .int .u32 x2, .int .u64 0, .int .u32 0, .int .u32 0, .int .u32 0, .slice none 0 0, .string ⟨#[]⟩, .slice none 0 0, .slice A 0 c, .int .u16 0, .int .u32 0, .int .u8 0, .slice none 0 0, .slice none 0 0] := rfl
   have hb : ZO wr q 51 #[.int .i64 5, .int .u32 x1, .int .u32 x2, .int .u64 0, .int .u32 0, .int .u32 0, .int .u32 0, .slice none 0 0, .string ⟨#[]⟩, .slice none 0 0, .slice A 0 c, .int .u16 0, .int .u32 0, .int .u8 0, .slice none 0 0, .slice none 0 0] := HS.out.at 1 rfl
   have hone : (#[.int .i64 5, .int .u32 x1, .int .u32 x2, .int .u64 0, .int .u32 0, .int .u32 0, .int .u32 0, .slice none 0 0, .string ⟨#[]⟩, .slice none 0 0, .slice A 0 c, .int .u16 0, .int .u32 0, .int .u8 0, .slice none 0 0, .slice none 0 0] : Array Value).all (·.oneCell') = true := by kernel_rfl
   have HS6 := VL (HS.out.YS #[.int .i64 5, .int .u32 x1, .int .u32 x2, .int .u64 0, .int .u32 0, .int .u32 0, .int .u32 0, .slice none 0 0, .string ⟨#[]⟩, .slice none 0 0, .slice A 0 c, .int .u16 0, .int .u32 0, .int .u8 0, .slice none 0 0, .slice none 0 0])
   go_wp2_with (first | refine wpList_load_row rfl 51 (.tmp 6) rfl q rfl 51 _ (0, 0) _ hb hd rfl Zx ?_ | refine wpList_store_row rfl 51 (.tmp 6) (.tmp _) rfl q #[.int .i64 5, .int .u32 x1, .int .u32 x2, .int .u64 0, .int .u32 0, .int .u32 0, .int .u32 0, .slice none 0 0, .string ⟨#[]⟩, .slice none 0 0, .slice A 0 c, .int .u16 0, .int .u32 0, .int .u8 0, .slice none 0 0, .slice none 0 0] rfl rfl 51 _ hb Zx rfl hone ?_)
   refine bodyPost_ret (results_cell_row (p := 6) Try.results30 _ _ q 51 _ (0, 0) _ rfl (HS6.out.at 1 rfl) hd rfl Zx) rfl ?_
   refine ⟨J0, ⟨5, x1, x2, 0, 0, 0, 0, [], ⟨#[]⟩, [], [], 0, 0, 0, [], []⟩, ⟨YA, YA, .slice A 0 c, YA, YA⟩, rfl, .refl J0, HS6.out.drop.drop.drop, ⟨Y4.nil J0 _, Y4.nil J0 _, ⟨A, c, rfl, Cells.nil _ _, Nat.zero_le _⟩, Y4.nil J0 _, Y4.nil J0 _⟩, WA ⟨x1a, x1b⟩ ⟨x2a, x2b⟩ (by simp) (by simp) (by simp) (by simp) (by simp) (by simp) (by simp) (by simp) (by simp) (by simp) (by simp) (Nat.zero_le _) (Nat.zero_le _) (Nat.zero_le _) (Nat.zero_le _) (Nat.zero_le _) (Nat.zero_le _), .inl rfl, fun p hp => ?_⟩
   have h5 := (HF.out p hp).1
   rw [HE.out p hp] at h5
   exact h5
  have hzi : (0 : Int) < (L.length : Int) := by omega
  obtain ⟨g, cur, eA, hg, -⟩ := HS.out.Ya.rowBk (by rw [XK (s := 1) (fun _ => rfl)]; omega)
  subst eA
  have Yu : Y8 J0 (bk q 51 #[.int .i64 5, .int .u32 x1, .int .u32 x2, .int .u64 0, .int .u32 0, .int .u32 0, .int .u32 0, .slice none 0 0, .string ⟨#[]⟩, .slice none 0 0, .slice (some ⟨g, 0, none⟩) L.length c, .int .u16 0, .int .u32 0, .int .u8 0, .slice none 0 0, .slice none 0 0] :: b :: M) g c 0 0 L wr \/ True := .inr trivial
  clear Yu
  obtain ⟨L0, hL0⟩ : ∃ x, x = L[0] := ⟨_, rfl⟩
  have hc0 : wr.cell? ⟨g, 0, none⟩ = some (.int .u16 L0) := by
   obtain ⟨g', cur', e1, hg', hlc, hcm, hcs, hct, hs⟩ := HS.out.Ya.rowBk (by rw [XK (s := 1) (fun _ => rfl)]; omega)
   injection e1 with e1
   injection e1 with e1
   subst e1
   rw [(show ZO wr _ 42 cur' from hs.at 0 rfl).cell 0, hL0]
   exact row_first hct hz
  have HL0 := VL hL0
  clear hL0
  have ZY := HS.out.alloc 42 #[.int .u16 L0]
  obtain ⟨q8, hq8⟩ : ∃ q, q = wr.heap.size := ⟨_, rfl⟩
  rw [<- hq8] at ZY
  clear HS
  have HS := VL ZY.rowUp3
  clear ZY
  go_upto_region 43 with fail
  rw [<- hq8]
  clear hq8 hcA hfA hlA hc0
  generalize World.alloc wr _ = W4 at HS ⊢
  have HSC := VL (sortC J0 (b :: bk q 51 #[.int .i64 5, .int .u32 x1, .int .u32 x2, .int .u64 0, .int .u32 0, .int .u32 0, .int .u32 0, .slice none 0 0, .string ⟨#[]⟩, .slice none 0 0, .slice (some ⟨g, 0, none⟩) L.length c, .int .u16 0, .int .u32 0, .int .u8 0, .slice none 0 0, .slice none 0 0] :: M) W4 g c q8 L0 L (by have := WE.out; omega) YZ.out.2.1 HS.out)
  obtain ⟨hcA, hfA, hlA⟩ := ZO.all (HS.out.at 3 rfl)
  go_wp2_with fail
  go_at_call 64
  refine HSC.out.mono ?_
  clear HSC HS hcA hfA hlA
  rintro e W6 ⟨rfl, l', hkp, hs⟩
  have hln := hkp.len
  have HKP := VL hkp
  clear hkp
  unfold Y8 at hs
  rw [hln] at hs
  have HS := VL (show St J0 (b :: bk q 51 #[.int .i64 5, .int .u32 x1, .int .u32 x2, .int .u64 0, .int .u32 0, .int .u32 0, .int .u32 0, .slice none 0 0, .string ⟨#[]⟩, .slice none 0 0, .slice (some ⟨g, 0, none⟩) L.length c, .int .u16 0, .int .u32 0, .int .u8 0, .slice none 0 0, .slice none 0 0] :: row 42 1 (.slice (some ⟨g, 0, none⟩) L.length c) L.length (flat Yp l') :: M) W6 from hs.ZQ.drop.up12)
  have HLN2 := VL hln
  clear hs hln
  have hb : ZO W6 q 51 #[.int .i64 5, .int .u32 x1, .int .u32 x2, .int .u64 0, .int .u32 0, .int .u32 0, .int .u32 0, .slice none 0 0, .string ⟨#[]⟩, .slice none 0 0, .slice (some ⟨g, 0, none⟩) L.length c, .int .u16 0, .int .u32 0, .int .u8 0, .slice none 0 0, .slice none 0 0] := HS.out.at 1 rfl
  have hone : (#[.int .i64 5, .int .u32 x1, .int .u32 x2, .int .u64 0, .int .u32 0, .int .u32 0, .int .u32 0, .slice none 0 0, .string ⟨#[]⟩, .slice none 0 0, .slice (some ⟨g, 0, none⟩) L.length c, .int .u16 0, .int .u32 0, .int .u8 0, .slice none 0 0, .slice none 0 0] : Array Value).all (·.oneCell') = true := by kernel_rfl
  have HS6 := VL (HS.out.YS #[.int .i64 5, .int .u32 x1, .int .u32 x2, .int .u64 0, .int .u32 0, .int .u32 0, .int .u32 0, .slice none 0 0, .string ⟨#[]⟩, .slice none 0 0, .slice (some ⟨g, 0, none⟩) L.length c, .int .u16 0, .int .u32 0, .int .u8 0, .slice none 0 0, .slice none 0 0])
  go_wp2_with (first | refine wpList_load_row rfl 51 (.tmp 6) rfl q rfl 51 _ (0, 0) _ hb hd rfl Zx ?_ | refine wpList_store_row rfl 51 (.tmp 6) (.tmp _) rfl q #[.int .i64 5, .int .u32 x1, .int .u32 x2, .int .u64 0, .int .u32 0, .int .u32 0, .int .u32 0, .slice none 0 0, .string ⟨#[]⟩, .slice none 0 0, .slice (some ⟨g, 0, none⟩) L.length c, .int .u16 0, .int .u32 0, .int .u8 0, .slice none 0 0, .slice none 0 0] rfl rfl 51 _ hb Zx rfl hone ?_)
  refine bodyPost_ret (results_cell_row (p := 6) Try.results30 _ _ q 51 _ (0, 0) _ rfl (HS6.out.at 1 rfl) hd rfl Zx) rfl ?_
  have hcap := (Yh (show World.ownsRow _ 0 42 1 (.slice (some ⟨g, 0, none⟩) L.length c) L.length _ from HS6.out.at 2 rfl)).2
  obtain ⟨J2, Zd, hs7, hcl, hnew⟩ := HS6.out.drop.drop.freezeRowN (by rw [XK (s := 1) (fun _ => rfl), HLN2.out]; omega)
  refine ⟨J2, ⟨5, x1, x2, 0, 0, 0, 0, [], ⟨#[]⟩, [], l', 0, 0, 0, [], []⟩, ⟨YA, YA, .slice (some ⟨g, 0, none⟩) L.length c, YA, YA⟩, rfl, Zd, hs7, ⟨Y4.nil J2 _, Y4.nil J2 _, ⟨some ⟨g, 0, none⟩, c, by rw [HLN2.out], hcl, by rw [HLN2.out]; exact hcap⟩, Y4.nil J2 _, Y4.nil J2 _⟩, WA ⟨x1a, x1b⟩ ⟨x2a, x2b⟩ (by simp) (by simp) (by simp) (by simp) (by simp) (by simp) HKP.out.rng (by simp) (by simp) (by simp) (by simp) (Nat.zero_le _) (Nat.zero_le _) (by have := HLN2.out; have := WE.out; simp only []; omega) (Nat.zero_le _) (Nat.zero_le _) (Nat.zero_le _), .inr hnew, fun p hp => ?_⟩
  have h5 := (HF.out p hp).1
  have h6 := (HF.out p hp).2.2.1
  rw [HE.out p hp] at h5 h6
  have h7 := HKP.out.same (HL0.out ▸ ord_sort h6 hz)
  rw [h7]
  exact h5
set_option maxRecDepth 100000 in
set_option maxHeartbeats 20000000 in
theorem read6 (J0 : Zh) (M : List Zt) (w : World) (f s : Int) (p9 : Nat) (r : RS) (b : Zt) (T : Pk -> Prop) (hT : ∀ p, T p -> Good p /\ Y6 p /\ p.kind = 6 /\ r = (YH (Zu p), false)) (hk : XR f s = 6) (hf : 0 <= f /\ f <= 255) (hl : r.1.length <= 2000) (ZX : St J0 (b :: M) w) (hR : Rdr J0 p9 r b) :
  Calls Try.prog 30 #[.int .u8 f, .int .u8 s, .pointer (some ⟨p9, 0, none⟩)] w (RdOk J0 M T) := by
 have HT := VL hT
 have HK := kindC f s (w.alloc (.cells #[.int .i64 0, .int .u32 0, .int .u32 0, .int .u64 0, .int .u32 0, .int .u32 0, .int .u32 0, .slice none 0 0, .string ⟨#[]⟩, .slice none 0 0, .slice none 0 0, .int .u16 0, .int .u32 0, .int .u8 0, .slice none 0 0, .slice none 0 0] 51)) hf
 rw [hk] at HK
 have HK := VL HK
 have HR := VL hR
 have ZY := (ZX.alloc 51 #[.int .i64 0, .int .u32 0, .int .u32 0, .int .u64 0, .int .u32 0, .int .u32 0, .int .u32 0, .slice none 0 0, .string ⟨#[]⟩, .slice none 0 0, .slice none 0 0, .int .u16 0, .int .u32 0, .int .u8 0, .slice none 0 0, .slice none 0 0]).ZQ
 obtain ⟨q, hq⟩ : ∃ q, q = w.heap.size := ⟨_, rfl⟩
 rw [<- hq] at ZY
 have HL := VL hl
 clear hT hk hR ZX hl
 obtain ⟨fs, hd⟩ := st51D
 go_enter Try.func30, Try.ntmps30
 go_upto_region 1 with fail
 rw [<- hq]
 clear hq
 generalize World.alloc w _ = W at ZY HK ⊢
 have HS := VL ZY
 clear ZY
 obtain ⟨hcA, hfA, hlA⟩ := ZO.all (HS.out.at 1 rfl)
 go_wp2_with fail
 go_at_call 61
 refine HK.out.mono ?_
 clear HK
 rintro e w0 ⟨rfl, hw⟩
 subst hw
 have hs9 : St J0 (b :: bk q 51 #[.int .i64 6, .int .u32 0, .int .u32 0, .int .u64 0, .int .u32 0, .int .u32 0, .int .u32 0, .slice none 0 0, .string ⟨#[]⟩, .slice none 0 0, .slice none 0 0, .int .u16 0, .int .u32 0, .int .u8 0, .slice none 0 0, .slice none 0 0] :: M) ((W).setCell ⟨q, 0, none⟩ (.int .i64 6)) := (HS.out.ZQ.set 0 (.int .i64 6)).ZQ
 have HS := VL hs9
 clear hs9
 obtain ⟨hcB, hfB, hlB⟩ := ZO.all (HS.out.at 1 rfl)
 have HC := VL (Y1 (I := J0) p9 r b HS.out HR.out)
 go_wp2_with fail
 go_at_call 62
 refine HC.out.mono ?_
 clear HC HS HR hcA hfA hlA
 try clear hcB hfB hlB
 rintro e w1 ⟨_, _, _, rfl, _, hs, rfl, rfl, b, hR, rfl⟩
 obtain ⟨x1, hx⟩ : ∃ z, z = ((YP (Zl 4 r).1 : Nat) : Int) := ⟨_, rfl⟩
 obtain ⟨r1, hr⟩ : ∃ z, z = (Zl 4 r).2 := ⟨_, rfl⟩
 have Zw := YT 4 r 4 (by decide)
 rw [<- hx] at Zw ⊢
 rw [<- hr] at hR
 obtain ⟨x1a, x1b⟩ := Zw
 have HL := VL (show r1.1.length <= 2000 from (by rw [hr]; exact Nat.le_trans (Ze 4 r) HL.out))
 replace x1b : x1 <= 4294967295 := (by have h9 : ((256 ^ 4 : Nat) : Int) = 4294967296 := (by decide); omega)
 have HXx1 := VL (And.intro hx hr)
 have HS := VL hs
 have HR := VL hR
 clear hx hr hs hR
 obtain ⟨hcA, hfA, hlA⟩ := ZO.all (HS.out.at 1 rfl)
 have hs9 : St J0 (b :: bk q 51 #[.int .i64 6, .int .u32 x1, .int .u32 0, .int .u64 0, .int .u32 0, .int .u32 0, .int .u32 0, .slice none 0 0, .string ⟨#[]⟩, .slice none 0 0, .slice none 0 0, .int .u16 0, .int .u32 0, .int .u8 0, .slice none 0 0, .slice none 0 0] :: M) ((w1).setCell ⟨q, 1, none⟩ (.int .u32 x1)) := (HS.out.ZQ.set 1 (.int .u32 x1)).ZQ
 have HS := VL hs9
 clear hs9
 obtain ⟨hcB, hfB, hlB⟩ := ZO.all (HS.out.at 1 rfl)
 have HC := VL (Y1 (I := J0) p9 r1 b HS.out HR.out)
 go_wp2_with fail
 go_at_call 62
 refine HC.out.mono ?_
 clear HC HS HR hcA hfA hlA
 try clear hcB hfB hlB
 rintro e w2 ⟨_, _, _, rfl, _, hs, rfl, rfl, b, hR, rfl⟩
 obtain ⟨x2, hx⟩ : ∃ z, z = ((YP (Zl 4 r1).1 : Nat) : Int) := ⟨_, rfl⟩
 obtain ⟨r2, hr⟩ : ∃ z, z = (Zl 4 r1).2 := ⟨_, rfl⟩
 have Zw := YT 4 r1 4 (by decide)
 rw [<- hx] at Zw ⊢
 rw [<- hr] at hR
 obtain ⟨x2a, x2b⟩ := Zw
 have HL := VL (show r2.1.length <= 2000 from (by rw [hr]; exact Nat.le_trans (Ze 4 r1) HL.out))
 replace x2b : x2 <= 4294967295 := (by have h9 : ((256 ^ 4 : Nat) : Int) = 4294967296 := (by decide); omega)
 have HXx2 := VL (And.intro hx hr)
 have HS := VL hs
 have HR := VL hR
 clear hx hr hs hR
 obtain ⟨hcA, hfA, hlA⟩ := ZO.all (HS.out.at 1 rfl)
 have hs9 : St J0 (b :: bk q 51 #[.int .i64 6, .int .u32 x1, .int .u32 x2, .int .u64 0, .int .u32 0, .int .u32 0, .int .u32 0, .slice none 0 0, .string ⟨#[]⟩, .slice none 0 0, .slice none 0 0, .int .u16 0, .int .u32 0, .int .u8 0, .slice none 0 0, .slice none 0 0] :: M) ((w2).setCell ⟨q, 2, none⟩ (.int .u32 x2)) := (HS.out.ZQ.set 2 (.int .u32 x2)).ZQ
 have HS := VL hs9
 clear hs9
 obtain ⟨hcB, hfB, hlB⟩ := ZO.all (HS.out.at 1 rfl)
 have HA := VL (show ∀ p, T p -> Y6 p /\ p.ZF.any Xp = false /\ 0 < p.ZF.length /\ p.ZF.length <= 255 /\ ∃ t, r2 = (Zi p.base ++ (Zi p.ZF.length ++ (ZM (p.ref * 256 + p.count) ++ (Xu p.ZF ((p.ZF.length + 6) / 7) ++ (p.ZF.flatMap XW ++ t)))), false) from fun p hp => by
  obtain ⟨hg, hok, hk, hr⟩ := HT.out p hp
  obtain ⟨h1, t, h2⟩ := shape6 hg hk
  have h3 : p.ZF.any Xp = false /\ 0 < p.ZF.length /\ p.ZF.length <= 255 := by
   have := hg.1
   unfold YF at this
   rcases this with h | h | h | h | h | h | h
   all_goals first | exact ⟨h.2.1, by omega, by omega⟩ | (exfalso; omega)
  rw [h2] at hr
  obtain ⟨a1, hr⟩ := YY HXx1.out hok.ZA hr
  obtain ⟨a2, hr6⟩ := YY HXx2.out hok.ZC hr
  exact ⟨hok, h3.1, h3.2.1, h3.2.2, t, hr6⟩)
 have HC := VL (arrsC J0 M _ q p9 x1 x2 r2 b T HA.out HL.out HS.out HR.out)
 go_wp2_with fail
 go_at_call 63
 refine HC.out.mono ?_
 clear HC HR HS hcA hfA hlA hcB hfB hlB
 rintro e W5 ⟨rfl, J2, bs, rf, ct, L, A, c, b, r', Zd, hs, hR, hbs, hrf, hct, hll, hp⟩
 have HLE := VL Zd
 have HP := VL hp
 have HS := VL hs
 clear Zd hp hs hR
 have hb : ZO W5 q 51 #[.int .i64 6, .int .u32 x1, .int .u32 x2, .int .u64 0, .int .u32 0, .int .u32 0, .int .u32 0, .slice none 0 0, .string ⟨#[]⟩, .slice none 0 0, .slice none 0 0, .int .u16 bs, .int .u32 rf, .int .u8 ct, .slice A L.length c, .slice none 0 0] := HS.out.at 1 rfl
 have hone : (#[.int .i64 6, .int .u32 x1, .int .u32 x2, .int .u64 0, .int .u32 0, .int .u32 0, .int .u32 0, .slice none 0 0, .string ⟨#[]⟩, .slice none 0 0, .slice none 0 0, .int .u16 bs, .int .u32 rf, .int .u8 ct, .slice A L.length c, .slice none 0 0] : Array Value).all (·.oneCell') = true := by kernel_rfl
 have HS6 := VL (HS.out.YS #[.int .i64 6, .int .u32 x1, .int .u32 x2, .int .u64 0, .int .u32 0, .int .u32 0, .int .u32 0, .slice none 0 0, .string ⟨#[]⟩, .slice none 0 0, .slice none 0 0, .int .u16 bs, .int .u32 rf, .int .u8 ct, .slice A L.length c, .slice none 0 0])
 go_wp2_with (first | refine wpList_load_row rfl 51 (.tmp 6) rfl q rfl 51 _ (0, 0) _ hb hd rfl Zx ?_ | refine wpList_store_row rfl 51 (.tmp 6) (.tmp _) rfl q #[.int .i64 6, .int .u32 x1, .int .u32 x2, .int .u64 0, .int .u32 0, .int .u32 0, .int .u32 0, .slice none 0 0, .string ⟨#[]⟩, .slice none 0 0, .slice none 0 0, .int .u16 bs, .int .u32 rf, .int .u8 ct, .slice A L.length c, .slice none 0 0] rfl rfl 51 _ hb Zx rfl hone ?_)
 refine bodyPost_ret (results_cell_row (p := 6) Try.results30 _ _ q 51 _ (0, 0) _ rfl (HS6.out.at 1 rfl) hd rfl Zx) rfl ?_
 have hcap := (Yh (show World.ownsRow _ 0 3 1 (.slice A L.length c) L.length _ from HS6.out.at 2 rfl)).2
 obtain ⟨J3, YL, hs7, hcl⟩ := HS6.out.drop.drop.ZR
 refine ⟨J3, ⟨6, x1, x2, 0, 0, 0, 0, [], ⟨#[]⟩, [], [], bs, rf, ct, L, []⟩, ⟨YA, YA, YA, .slice A L.length c, YA⟩, rfl, HLE.out.trans YL, hs7, ⟨Y4.nil J3 _, Y4.nil J3 _, Y4.nil J3 _, ⟨A, c, rfl, hcl, hcap⟩, Y4.nil J3 _⟩, WA ⟨x1a, x1b⟩ ⟨x2a, x2b⟩ (by simp) (by simp) (by simp) (by simp) (by simp) (by simp) (by simp) hbs hrf hct (by simp) (Nat.zero_le _) (Nat.zero_le _) (Nat.zero_le _) (show L.length <= 70000 by omega) (Nat.zero_le _) (Nat.zero_le _), .inl rfl, fun p hp => ?_⟩
 obtain ⟨hg, hok, hk, hr⟩ := HT.out p hp
 obtain ⟨h1, t, h2⟩ := shape6 hg hk
 rw [h2] at hr
 obtain ⟨a1, hr⟩ := YY HXx1.out hok.ZA hr
 obtain ⟨a2, hr6⟩ := YY HXx2.out hok.ZC hr
 obtain ⟨p1, p2, p3, p4⟩ := HP.out p hp
 rw [a1, a2, <- p1, <- p2, <- p3, <- p4, <- h1]
end Go.Proofs.Ytddopbbmgpnjjaa
