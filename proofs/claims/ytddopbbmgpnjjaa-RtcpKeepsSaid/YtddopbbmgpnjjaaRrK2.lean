/- rtcp.read of a body of kind 2. -/
import Derived.Test.YtddopbbmgpnjjaaRrC
namespace Go.Proofs.Ytddopbbmgpnjjaa
open Go.RowKit
set_option linter.unusedSimpArgs false

set_option maxRecDepth 100000 in
set_option maxHeartbeats 20000000 in
theorem read1 (J0 : Img) (M : List Res) (w : World) (f s : Int) (p9 : Nat) (r : RS) (b : Res) (T : Pk → Prop) (hT : ∀ p, T p → Good p ∧ PkOk p ∧ p.kind = 1 ∧ r = (evenL (bodyL p), false)) (hk : kindP f s = 1) (hf : 0 ≤ f ∧ f ≤ 255) (hl : r.1.length ≤ 2000) (hst : St J0 (b :: M) w) (hR : Rdr J0 p9 r b) :
    Calls Try.prog 30 #[.int .u8 f, .int .u8 s, .pointer (some ⟨p9, 0, none⟩)] w (RdOk J0 M T) := by
  have HT := Lib.hid hT
  have HK := kindC f s (w.alloc (.cells #[.int .i64 0, .int .u32 0, .int .u32 0, .int .u64 0, .int .u32 0, .int .u32 0, .int .u32 0, .slice none 0 0, .string ⟨#[]⟩, .slice none 0 0, .slice none 0 0, .int .u16 0, .int .u32 0, .int .u8 0, .slice none 0 0, .slice none 0 0] 51)) hf
  rw [hk] at HK
  have HK := Lib.hid HK
  have HR := Lib.hid hR
  have hs1 := (hst.alloc 51 #[.int .i64 0, .int .u32 0, .int .u32 0, .int .u64 0, .int .u32 0, .int .u32 0, .int .u32 0, .slice none 0 0, .string ⟨#[]⟩, .slice none 0 0, .slice none 0 0, .int .u16 0, .int .u32 0, .int .u8 0, .slice none 0 0, .slice none 0 0]).swap1
  obtain ⟨q, hq⟩ : ∃ q, q = w.heap.size := ⟨_, rfl⟩
  rw [← hq] at hs1
  have HL := Lib.hid hl
  clear hT hk hR hst hl
  obtain ⟨fs, hd⟩ := st51D
  go_enter Try.func30, Try.ntmps30
  go_upto_region 1 with fail
  rw [← hq]
  clear hq
  generalize World.alloc w _ = W at hs1 HK ⊢
  have HS := Lib.hid hs1
  clear hs1
  obtain ⟨hcA, hfA, hlA⟩ := Blk.all (HS.out.at 1 rfl)
  go_wp2_with fail
  go_at_call 61
  refine HK.out.mono ?_
  clear HK
  rintro e w0 ⟨rfl, hw⟩
  subst hw
  have hs9 : St J0 (b :: bk q 51 #[.int .i64 1, .int .u32 0, .int .u32 0, .int .u64 0, .int .u32 0, .int .u32 0, .int .u32 0, .slice none 0 0, .string ⟨#[]⟩, .slice none 0 0, .slice none 0 0, .int .u16 0, .int .u32 0, .int .u8 0, .slice none 0 0, .slice none 0 0] :: M) ((W).setCell ⟨q, 0, none⟩ (.int .i64 1)) := (HS.out.swap1.set 0 (.int .i64 1)).swap1
  have HS := Lib.hid hs9
  clear hs9
  obtain ⟨hcB, hfB, hlB⟩ := Blk.all (HS.out.at 1 rfl)
  have HC := Lib.hid (rd_u32 (I := J0) p9 r b HS.out HR.out)
  go_wp2_with fail
  go_at_call 62
  refine HC.out.mono ?_
  clear HC HS HR hcA hfA hlA
  try clear hcB hfB hlB
  rintro e w1 ⟨_, _, _, rfl, _, hs, rfl, rfl, b, hR, rfl⟩
  obtain ⟨x1, hx⟩ : ∃ z, z = ((numL (cutS 4 r).1 : Nat) : Int) := ⟨_, rfl⟩
  obtain ⟨r1, hr⟩ : ∃ z, z = (cutS 4 r).2 := ⟨_, rfl⟩
  have hrng := nm_rng 4 r 4 (by decide)
  rw [← hx] at hrng ⊢
  rw [← hr] at hR
  obtain ⟨x1a, x1b⟩ := hrng
  have HL := Lib.hid (show r1.1.length ≤ 2000 from (by rw [hr]; exact Nat.le_trans (cutS_left 4 r) HL.out))
  replace x1b : x1 ≤ 4294967295 := (by have h9 : ((256 ^ 4 : Nat) : Int) = 4294967296 := (by decide); omega)
  have HXx1 := Lib.hid (And.intro hx hr)
  have HS := Lib.hid hs
  have HR := Lib.hid hR
  clear hx hr hs hR
  obtain ⟨hcA, hfA, hlA⟩ := Blk.all (HS.out.at 1 rfl)
  have hs9 : St J0 (b :: bk q 51 #[.int .i64 1, .int .u32 x1, .int .u32 0, .int .u64 0, .int .u32 0, .int .u32 0, .int .u32 0, .slice none 0 0, .string ⟨#[]⟩, .slice none 0 0, .slice none 0 0, .int .u16 0, .int .u32 0, .int .u8 0, .slice none 0 0, .slice none 0 0] :: M) ((w1).setCell ⟨q, 1, none⟩ (.int .u32 x1)) := (HS.out.swap1.set 1 (.int .u32 x1)).swap1
  have HS := Lib.hid hs9
  clear hs9
  obtain ⟨hcB, hfB, hlB⟩ := Blk.all (HS.out.at 1 rfl)
  have HC := Lib.hid (rd_u32 (I := J0) p9 r1 b HS.out HR.out)
  go_wp2_with fail
  go_at_call 62
  refine HC.out.mono ?_
  clear HC HS HR hcA hfA hlA
  try clear hcB hfB hlB
  rintro e w2 ⟨_, _, _, rfl, _, hs, rfl, rfl, b, hR, rfl⟩
  obtain ⟨n1, hx⟩ : ∃ z, z = ((numL (cutS 4 r1).1 : Nat) : Int) := ⟨_, rfl⟩
  obtain ⟨r2, hr⟩ : ∃ z, z = (cutS 4 r1).2 := ⟨_, rfl⟩
  have hrng := nm_rng 4 r1 4 (by decide)
  rw [← hx] at hrng ⊢
  rw [← hr] at hR
  obtain ⟨n1a, n1b⟩ := hrng
  have HL := Lib.hid (show r2.1.length ≤ 2000 from (by rw [hr]; exact Nat.le_trans (cutS_left 4 r1) HL.out))
  replace n1b : n1 ≤ 4294967295 := (by have h9 : ((256 ^ 4 : Nat) : Int) = 4294967296 := (by decide); omega)
  have HXn1 := Lib.hid (And.intro hx hr)
  have HS := Lib.hid hs
  have HR := Lib.hid hR
  clear hx hr hs hR
  obtain ⟨hcA, hfA, hlA⟩ := Blk.all (HS.out.at 1 rfl)
  have HC := Lib.hid (rd_u32 (I := J0) p9 r2 b HS.out HR.out)
  go_wp2_with fail
  go_at_call 62
  refine HC.out.mono ?_
  clear HC HS HR hcA hfA hlA
  try clear hcB hfB hlB
  rintro e w3 ⟨_, _, _, rfl, _, hs, rfl, rfl, b, hR, rfl⟩
  obtain ⟨n2, hx⟩ : ∃ z, z = ((numL (cutS 4 r2).1 : Nat) : Int) := ⟨_, rfl⟩
  obtain ⟨r3, hr⟩ : ∃ z, z = (cutS 4 r2).2 := ⟨_, rfl⟩
  have hrng := nm_rng 4 r2 4 (by decide)
  rw [← hx] at hrng ⊢
  rw [← hr] at hR
  obtain ⟨n2a, n2b⟩ := hrng
  have HL := Lib.hid (show r3.1.length ≤ 2000 from (by rw [hr]; exact Nat.le_trans (cutS_left 4 r2) HL.out))
  replace n2b : n2 ≤ 4294967295 := (by have h9 : ((256 ^ 4 : Nat) : Int) = 4294967296 := (by decide); omega)
  have HXn2 := Lib.hid (And.intro hx hr)
  have HS := Lib.hid hs
  have HR := Lib.hid hR
  clear hx hr hs hR
  obtain ⟨hcA, hfA, hlA⟩ := Blk.all (HS.out.at 1 rfl)
  have hsh : IntKind.u64.wrap (n1 * 4294967296) = n1 * 4294967296 := by rw [u64_mod]; omega
  have hor := or_u64 n1a n1b n2a n2b
  go_upto_region 9 with fail
  have hs9 : St J0 (b :: bk q 51 #[.int .i64 1, .int .u32 x1, .int .u32 0, .int .u64 (n1 * 4294967296 + n2), .int .u32 0, .int .u32 0, .int .u32 0, .slice none 0 0, .string ⟨#[]⟩, .slice none 0 0, .slice none 0 0, .int .u16 0, .int .u32 0, .int .u8 0, .slice none 0 0, .slice none 0 0] :: M) ((w3).setCell ⟨q, 3, none⟩ (.int .u64 (n1 * 4294967296 + n2))) := (HS.out.swap1.set 3 (.int .u64 (n1 * 4294967296 + n2))).swap1
  have HS := Lib.hid hs9
  clear hs9
  clear hor hsh hcA hfA hlA
  generalize World.setCell w3 _ _ = W2 at HS ⊢
  obtain ⟨hcA, hfA, hlA⟩ := Blk.all (HS.out.at 1 rfl)
  have HC := Lib.hid (rd_u32 (I := J0) p9 r3 b HS.out HR.out)
  go_wp2_with fail
  go_at_call 62
  refine HC.out.mono ?_
  clear HC HS HR hcA hfA hlA
  try clear hcB hfB hlB
  rintro e w4 ⟨_, _, _, rfl, _, hs, rfl, rfl, b, hR, rfl⟩
  obtain ⟨x3, hx⟩ : ∃ z, z = ((numL (cutS 4 r3).1 : Nat) : Int) := ⟨_, rfl⟩
  obtain ⟨r4, hr⟩ : ∃ z, z = (cutS 4 r3).2 := ⟨_, rfl⟩
  have hrng := nm_rng 4 r3 4 (by decide)
  rw [← hx] at hrng ⊢
  rw [← hr] at hR
  obtain ⟨x3a, x3b⟩ := hrng
  have HL := Lib.hid (show r4.1.length ≤ 2000 from (by rw [hr]; exact Nat.le_trans (cutS_left 4 r3) HL.out))
  replace x3b : x3 ≤ 4294967295 := (by have h9 : ((256 ^ 4 : Nat) : Int) = 4294967296 := (by decide); omega)
  have HXx3 := Lib.hid (And.intro hx hr)
  have HS := Lib.hid hs
  have HR := Lib.hid hR
  clear hx hr hs hR
  obtain ⟨hcA, hfA, hlA⟩ := Blk.all (HS.out.at 1 rfl)
  have HC := Lib.hid (rd_u32 (I := J0) p9 r4 b HS.out HR.out)
  go_wp2_with fail
  go_at_call 62
  refine HC.out.mono ?_
  clear HC HS HR hcA hfA hlA
  try clear hcB hfB hlB
  rintro e w5 ⟨_, _, _, rfl, _, hs, rfl, rfl, b, hR, rfl⟩
  obtain ⟨x4, hx⟩ : ∃ z, z = ((numL (cutS 4 r4).1 : Nat) : Int) := ⟨_, rfl⟩
  obtain ⟨r5, hr⟩ : ∃ z, z = (cutS 4 r4).2 := ⟨_, rfl⟩
  have hrng := nm_rng 4 r4 4 (by decide)
  rw [← hx] at hrng ⊢
  rw [← hr] at hR
  obtain ⟨x4a, x4b⟩ := hrng
  have HL := Lib.hid (show r5.1.length ≤ 2000 from (by rw [hr]; exact Nat.le_trans (cutS_left 4 r4) HL.out))
  replace x4b : x4 ≤ 4294967295 := (by have h9 : ((256 ^ 4 : Nat) : Int) = 4294967296 := (by decide); omega)
  have HXx4 := Lib.hid (And.intro hx hr)
  have HS := Lib.hid hs
  have HR := Lib.hid hR
  clear hx hr hs hR
  obtain ⟨hcA, hfA, hlA⟩ := Blk.all (HS.out.at 1 rfl)
  have HC := Lib.hid (rd_u32 (I := J0) p9 r5 b HS.out HR.out)
  go_wp2_with fail
  go_at_call 62
  refine HC.out.mono ?_
  clear HC HS HR hcA hfA hlA
  try clear hcB hfB hlB
  rintro e w6 ⟨_, _, _, rfl, _, hs, rfl, rfl, b, hR, rfl⟩
  obtain ⟨x5, hx⟩ : ∃ z, z = ((numL (cutS 4 r5).1 : Nat) : Int) := ⟨_, rfl⟩
  obtain ⟨r6, hr⟩ : ∃ z, z = (cutS 4 r5).2 := ⟨_, rfl⟩
  have hrng := nm_rng 4 r5 4 (by decide)
  rw [← hx] at hrng ⊢
  rw [← hr] at hR
  obtain ⟨x5a, x5b⟩ := hrng
  have HL := Lib.hid (show r6.1.length ≤ 2000 from (by rw [hr]; exact Nat.le_trans (cutS_left 4 r5) HL.out))
  replace x5b : x5 ≤ 4294967295 := (by have h9 : ((256 ^ 4 : Nat) : Int) = 4294967296 := (by decide); omega)
  have HXx5 := Lib.hid (And.intro hx hr)
  have HS := Lib.hid hs
  have HR := Lib.hid hR
  clear hx hr hs hR
  obtain ⟨hcA, hfA, hlA⟩ := Blk.all (HS.out.at 1 rfl)
  go_upto_region 17 with fail
  have hs1 : St J0 (b :: bk q 51 #[.int .i64 1, .int .u32 x1, .int .u32 0, .int .u64 (n1 * 4294967296 + n2), .int .u32 x3, .int .u32 x4, .int .u32 x5, .slice none 0 0, .string ⟨#[]⟩, .slice none 0 0, .slice none 0 0, .int .u16 0, .int .u32 0, .int .u8 0, .slice none 0 0, .slice none 0 0] :: M) _ := (((HS.out.swap1.set 4 (.int .u32 x3)).set 5 (.int .u32 x4)).set 6 (.int .u32 x5)).swap1
  clear HS hcA hfA hlA
  have HS := Lib.hid hs1
  clear hs1
  have hnt : 0 ≤ n1 * 4294967296 + n2 ∧ n1 * 4294967296 + n2 ≤ 18446744073709551615 := by omega
  obtain ⟨hcB, hfB, hlB⟩ := Blk.all (HS.out.at 1 rfl)
  have HF := Lib.hid (show ∀ p, T p → (⟨1, x1, 0, (n1 * 4294967296 + n2), x3, x4, x5, p.reps, ⟨#[]⟩, [], [], 0, 0, 0, [], []⟩ : Pk) = p ∧ r6 = (p.reps.flatMap repL, false) from fun p hp => by
    obtain ⟨hg, hok, hk, hr⟩ := HT.out p hp
    obtain ⟨h1, h2⟩ := shape1 hg hk
    rw [h2] at hr
    obtain ⟨a1, hr⟩ := rd4_of HXx1.out hok.sender hr
    have hn := hok.ntp
    obtain ⟨a2, hr⟩ := rd4_of HXn1.out (by omega) hr
    obtain ⟨a3, hr⟩ := rd4_of HXn2.out (by omega) hr
    obtain ⟨a4, hr⟩ := rd4_of HXx3.out hok.rtp hr
    obtain ⟨a5, hr⟩ := rd4_of HXx4.out hok.pkts hr
    obtain ⟨a6, hr6⟩ := rd4_of HXx5.out hok.octs hr
    rw [a1, a2, a3, a4, a5, a6, ← nt_back, ← h1]
    exact ⟨rfl, hr6⟩)
  generalize World.setCell (World.setCell _ _ _) _ _ = W2 at HS hcB hfB hlB ⊢
  have hsr := (HS.out.nil (e := 65) (size := 7)).up12
  clear HS
  have HS := Lib.hid hsr
  clear hsr
  try clear hcA hfA hlA
  clear hcB hfB hlB
  go_loopw [] (fun wr => ∃ (L : List Rp) (A : Option Addr) (c : Nat) (rL : RS) (b9 : Res), Hid (St J0 (b9 :: bk q 51 #[.int .i64 1, .int .u32 x1, .int .u32 0, .int .u64 (n1 * 4294967296 + n2), .int .u32 x3, .int .u32 x4, .int .u32 x5, .slice A L.length c, .string ⟨#[]⟩, .slice none 0 0, .slice none 0 0, .int .u16 0, .int .u32 0, .int .u8 0, .slice none 0 0, .slice none 0 0] :: row 65 7 (.slice A L.length c) L.length (flat repC L) :: M) wr ∧ Rdr J0 p9 rL b9 ∧ rL.1.length ≤ 2000 ∧ L.length + 1 * mS rL ≤ 2001 ∧ (∀ x ∈ L, RpRaw x) ∧ ∀ p, T p → ∃ t, p.reps = L ++ t ∧ rL = (t.flatMap repL, false))) (fun wr => rdM wr p9)
  case atStart => exact ⟨[], none, 0, r6, b, Lib.hid ⟨HS.out, HR.out, HL.out, by have := mS_lt HL.out; simp only [List.length_nil]; omega, by simp, fun p hp => ⟨p.reps, rfl, (HF.out p hp).2⟩⟩⟩
  case round =>
    obtain ⟨L, A, c, rL, b, hh⟩ := hrel
    obtain ⟨hs, hR, hl9, hlen, hraw, ht⟩ := hh.out
    clear hh HS HR HL
    have HS := Lib.hid hs
    have HR := Lib.hid hR
    have HL := Lib.hid hl9
    have HIN := Lib.hid (And.intro hlen (And.intro hraw ht))
    clear hs hR hl9 hlen hraw ht
    obtain ⟨hcA, hfA, hlA⟩ := Blk.all (HS.out.at 1 rfl)
    have HLf := Lib.hid (rd_left (I := J0) p9 rL b HS.out HR.out)
    have HBd := Lib.hid (rd_bad (I := J0) p9 rL b HS.out HR.out)
    obtain ⟨ln, hln⟩ : ∃ n, n = rL.1.length := ⟨_, rfl⟩
    obtain ⟨bd, hbd⟩ : ∃ x, x = rL.2 := ⟨_, rfl⟩
    rw [← hln] at HLf
    rw [← hbd] at HBd
    have HLN := Lib.hid (And.intro hln hbd)
    clear hln hbd
    rcases Nat.eq_zero_or_pos ln with h0 | h0
    · subst h0
      go_upto_region 41 with (go_at_call 25; refine HLf.out.mono ?_; rintro e w3 ⟨rfl, hw⟩; subst hw)
      have HE := Lib.hid (show ∀ p, T p → p.reps = L from fun p hp => by
        obtain ⟨t, h1, h2⟩ := HIN.out.2.2 p hp
        obtain ⟨h3, h4⟩ := HLN.out
        rw [h2] at h3
        rw [h1, fm_zero (fun x => by rw [repL_len]; decide) h3.symm, List.append_nil])
      have hb : Blk wr q 51 #[.int .i64 1, .int .u32 x1, .int .u32 0, .int .u64 (n1 * 4294967296 + n2), .int .u32 x3, .int .u32 x4, .int .u32 x5, .slice A L.length c, .string ⟨#[]⟩, .slice none 0 0, .slice none 0 0, .int .u16 0, .int .u32 0, .int .u8 0, .slice none 0 0, .slice none 0 0] := HS.out.at 1 rfl
      have hone : (#[.int .i64 1, .int .u32 x1, .int .u32 0, .int .u64 (n1 * 4294967296 + n2), .int .u32 x3, .int .u32 x4, .int .u32 x5, .slice A L.length c, .string ⟨#[]⟩, .slice none 0 0, .slice none 0 0, .int .u16 0, .int .u32 0, .int .u8 0, .slice none 0 0, .slice none 0 0] : Array Value).all (·.oneCell') = true := by kernel_rfl
      have HS6 := Lib.hid (HS.out.setR1 #[.int .i64 1, .int .u32 x1, .int .u32 0, .int .u64 (n1 * 4294967296 + n2), .int .u32 x3, .int .u32 x4, .int .u32 x5, .slice A L.length c, .string ⟨#[]⟩, .slice none 0 0, .slice none 0 0, .int .u16 0, .int .u32 0, .int .u8 0, .slice none 0 0, .slice none 0 0])
      go_wp2_with (first | refine wpList_load_row rfl 51 (.tmp 6) rfl q rfl 51 _ (0, 0) _ hb hd rfl st51I ?_ | refine wpList_store_row rfl 51 (.tmp 6) (.tmp _) rfl q #[.int .i64 1, .int .u32 x1, .int .u32 0, .int .u64 (n1 * 4294967296 + n2), .int .u32 x3, .int .u32 x4, .int .u32 x5, .slice A L.length c, .string ⟨#[]⟩, .slice none 0 0, .slice none 0 0, .int .u16 0, .int .u32 0, .int .u8 0, .slice none 0 0, .slice none 0 0] rfl rfl 51 _ hb st51I rfl hone ?_)
      refine bodyPost_ret (results_cell_row (p := 6) Try.results30 _ _ q 51 _ (0, 0) _ rfl (HS6.out.at 1 rfl) hd rfl st51I) rfl ?_
      have hcap := (own_cap (show World.ownsRow _ 0 65 7 (.slice A L.length c) L.length _ from HS6.out.at 2 rfl)).2
      obtain ⟨J2, hle2, hs7, hcl⟩ := HS6.out.drop.drop.freezeRow
      refine ⟨J2, ⟨1, x1, 0, (n1 * 4294967296 + n2), x3, x4, x5, L, ⟨#[]⟩, [], [], 0, 0, 0, [], []⟩, ⟨.slice A L.length c, nilV, nilV, nilV, nilV⟩, rfl, hle2, hs7, ⟨⟨A, c, rfl, hcl, hcap⟩, SlC.nil J2 _, SlC.nil J2 _, SlC.nil J2 _, SlC.nil J2 _⟩, raw_mk ⟨x1a, x1b⟩ (by simp) ⟨hnt.1, hnt.2⟩ ⟨x3a, x3b⟩ ⟨x4a, x4b⟩ ⟨x5a, x5b⟩ HIN.out.2.1 (by simp) (by simp) (by simp) (by simp) (by simp) (by simp) (by have := HIN.out.1; simp only []; omega) (Nat.zero_le _) (Nat.zero_le _) (Nat.zero_le _) (Nat.zero_le _) (Nat.zero_le _), .inl rfl, fun p hp => ?_⟩
      have h5 := (HF.out p hp).1
      rw [HE.out p hp] at h5
      exact h5
    · have h0i : (0 : Int) < (ln : Int) := by omega
      cases bd
      · skip
        have HPOS := Lib.hid (show 0 < rL.1.length from HLN.out.1 ▸ h0)
        have HM0 := Lib.hid (rdM_of HR.out HS.out)
        go_upto_region 22 with (first | (go_at_call 25; refine HLf.out.mono ?_; rintro e w3 ⟨rfl, hw⟩; subst hw) | (go_at_call 29; refine HBd.out.mono ?_; rintro e w3 ⟨rfl, hw⟩; subst hw))
        have HC := Lib.hid (rd_u32 (I := J0) p9 rL b HS.out HR.out)
        go_wp2_with fail
        go_at_call 62
        refine HC.out.mono ?_
        clear HC HS HR hcA hfA hlA
        try clear hcB hfB hlB
        rintro e w7 ⟨_, _, _, rfl, _, hs, rfl, rfl, b, hR, rfl⟩
        obtain ⟨y1, hx⟩ : ∃ z, z = ((numL (cutS 4 rL).1 : Nat) : Int) := ⟨_, rfl⟩
        obtain ⟨r7, hr⟩ : ∃ z, z = (cutS 4 rL).2 := ⟨_, rfl⟩
        have hrng := nm_rng 4 rL 4 (by decide)
        rw [← hx] at hrng ⊢
        rw [← hr] at hR
        obtain ⟨y1a, y1b⟩ := hrng
        have HL := Lib.hid (show r7.1.length ≤ 2000 from (by rw [hr]; exact Nat.le_trans (cutS_left 4 rL) HL.out))
        replace y1b : y1 ≤ 4294967295 := (by have h9 : ((256 ^ 4 : Nat) : Int) = 4294967296 := (by decide); omega)
        have HXy1 := Lib.hid (And.intro hx hr)
        have HS := Lib.hid hs
        have HR := Lib.hid hR
        clear hx hr hs hR
        obtain ⟨hcA, hfA, hlA⟩ := Blk.all (HS.out.at 1 rfl)
        have hs1 := (HS.out.alloc 65 #[.int .u32 y1, .int .u8 0, .int .u32 0, .int .u32 0, .int .u32 0, .int .u32 0, .int .u32 0]).swap1
        obtain ⟨q8, hq8⟩ : ∃ q, q = w7.heap.size := ⟨_, rfl⟩
        rw [← hq8] at hs1
        clear HS
        have HS := Lib.hid hs1
        clear hs1
        go_upto_region 23 with fail
        rw [← hq8]
        clear hq8 hcA hfA hlA
        generalize World.alloc w7 _ = W3 at HS ⊢
        obtain ⟨hcA, hfA, hlA⟩ := Blk.all (HS.out.at 1 rfl)
        have HC := Lib.hid (rd_u32 (I := J0) p9 r7 b HS.out HR.out)
        go_wp2_with fail
        go_at_call 62
        refine HC.out.mono ?_
        clear HC HS HR hcA hfA hlA
        try clear hcB hfB hlB
        rintro e w8 ⟨_, _, _, rfl, _, hs, rfl, rfl, b, hR, rfl⟩
        obtain ⟨y2, hx⟩ : ∃ z, z = ((numL (cutS 4 r7).1 : Nat) : Int) := ⟨_, rfl⟩
        obtain ⟨r8, hr⟩ : ∃ z, z = (cutS 4 r7).2 := ⟨_, rfl⟩
        have hrng := nm_rng 4 r7 4 (by decide)
        rw [← hx] at hrng ⊢
        rw [← hr] at hR
        obtain ⟨y2a, y2b⟩ := hrng
        have HL := Lib.hid (show r8.1.length ≤ 2000 from (by rw [hr]; exact Nat.le_trans (cutS_left 4 r7) HL.out))
        replace y2b : y2 ≤ 4294967295 := (by have h9 : ((256 ^ 4 : Nat) : Int) = 4294967296 := (by decide); omega)
        have HXy2 := Lib.hid (And.intro hx hr)
        have HS := Lib.hid hs
        have HR := Lib.hid hR
        clear hx hr hs hR
        obtain ⟨hcA, hfA, hlA⟩ := Blk.all (HS.out.at 1 rfl)
        have hand := and_24 y2a y2b
        have hdv0 : 0 ≤ y2 / 16777216 := by omega
        have hdv1 : y2 / 16777216 ≤ 255 := by omega
        go_upto_region 25 with fail
        have hs1 := ((HS.out.swap1.set 1 (.int .u8 (y2 / 16777216))).set 2 (.int .u32 (y2 % 16777216))).swap1
        clear HS
        have HS := Lib.hid hs1
        clear hs1 hcA hfA hlA hand
        generalize World.setCell (World.setCell _ _ _) _ _ = W4 at HS ⊢
        obtain ⟨hcA, hfA, hlA⟩ := Blk.all (HS.out.at 1 rfl)
        have HC := Lib.hid (rd_u32 (I := J0) p9 r8 b HS.out HR.out)
        go_wp2_with fail
        go_at_call 62
        refine HC.out.mono ?_
        clear HC HS HR hcA hfA hlA
        try clear hcB hfB hlB
        rintro e w9 ⟨_, _, _, rfl, _, hs, rfl, rfl, b, hR, rfl⟩
        obtain ⟨y3, hx⟩ : ∃ z, z = ((numL (cutS 4 r8).1 : Nat) : Int) := ⟨_, rfl⟩
        obtain ⟨r9, hr⟩ : ∃ z, z = (cutS 4 r8).2 := ⟨_, rfl⟩
        have hrng := nm_rng 4 r8 4 (by decide)
        rw [← hx] at hrng ⊢
        rw [← hr] at hR
        obtain ⟨y3a, y3b⟩ := hrng
        have HL := Lib.hid (show r9.1.length ≤ 2000 from (by rw [hr]; exact Nat.le_trans (cutS_left 4 r8) HL.out))
        replace y3b : y3 ≤ 4294967295 := (by have h9 : ((256 ^ 4 : Nat) : Int) = 4294967296 := (by decide); omega)
        have HXy3 := Lib.hid (And.intro hx hr)
        have HS := Lib.hid hs
        have HR := Lib.hid hR
        clear hx hr hs hR
        obtain ⟨hcA, hfA, hlA⟩ := Blk.all (HS.out.at 1 rfl)
        have HC := Lib.hid (rd_u32 (I := J0) p9 r9 b HS.out HR.out)
        go_wp2_with fail
        go_at_call 62
        refine HC.out.mono ?_
        clear HC HS HR hcA hfA hlA
        try clear hcB hfB hlB
        rintro e w10 ⟨_, _, _, rfl, _, hs, rfl, rfl, b, hR, rfl⟩
        obtain ⟨y4, hx⟩ : ∃ z, z = ((numL (cutS 4 r9).1 : Nat) : Int) := ⟨_, rfl⟩
        obtain ⟨r10, hr⟩ : ∃ z, z = (cutS 4 r9).2 := ⟨_, rfl⟩
        have hrng := nm_rng 4 r9 4 (by decide)
        rw [← hx] at hrng ⊢
        rw [← hr] at hR
        obtain ⟨y4a, y4b⟩ := hrng
        have HL := Lib.hid (show r10.1.length ≤ 2000 from (by rw [hr]; exact Nat.le_trans (cutS_left 4 r9) HL.out))
        replace y4b : y4 ≤ 4294967295 := (by have h9 : ((256 ^ 4 : Nat) : Int) = 4294967296 := (by decide); omega)
        have HXy4 := Lib.hid (And.intro hx hr)
        have HS := Lib.hid hs
        have HR := Lib.hid hR
        clear hx hr hs hR
        obtain ⟨hcA, hfA, hlA⟩ := Blk.all (HS.out.at 1 rfl)
        have HC := Lib.hid (rd_u32 (I := J0) p9 r10 b HS.out HR.out)
        go_wp2_with fail
        go_at_call 62
        refine HC.out.mono ?_
        clear HC HS HR hcA hfA hlA
        try clear hcB hfB hlB
        rintro e w11 ⟨_, _, _, rfl, _, hs, rfl, rfl, b, hR, rfl⟩
        obtain ⟨y5, hx⟩ : ∃ z, z = ((numL (cutS 4 r10).1 : Nat) : Int) := ⟨_, rfl⟩
        obtain ⟨r11, hr⟩ : ∃ z, z = (cutS 4 r10).2 := ⟨_, rfl⟩
        have hrng := nm_rng 4 r10 4 (by decide)
        rw [← hx] at hrng ⊢
        rw [← hr] at hR
        obtain ⟨y5a, y5b⟩ := hrng
        have HL := Lib.hid (show r11.1.length ≤ 2000 from (by rw [hr]; exact Nat.le_trans (cutS_left 4 r10) HL.out))
        replace y5b : y5 ≤ 4294967295 := (by have h9 : ((256 ^ 4 : Nat) : Int) = 4294967296 := (by decide); omega)
        have HXy5 := Lib.hid (And.intro hx hr)
        have HS := Lib.hid hs
        have HR := Lib.hid hR
        clear hx hr hs hR
        obtain ⟨hcA, hfA, hlA⟩ := Blk.all (HS.out.at 1 rfl)
        have HC := Lib.hid (rd_u32 (I := J0) p9 r11 b HS.out HR.out)
        go_wp2_with fail
        go_at_call 62
        refine HC.out.mono ?_
        clear HC HS HR hcA hfA hlA
        try clear hcB hfB hlB
        rintro e w12 ⟨_, _, _, rfl, _, hs, rfl, rfl, b, hR, rfl⟩
        obtain ⟨y6, hx⟩ : ∃ z, z = ((numL (cutS 4 r11).1 : Nat) : Int) := ⟨_, rfl⟩
        obtain ⟨r12, hr⟩ : ∃ z, z = (cutS 4 r11).2 := ⟨_, rfl⟩
        have hrng := nm_rng 4 r11 4 (by decide)
        rw [← hx] at hrng ⊢
        rw [← hr] at hR
        obtain ⟨y6a, y6b⟩ := hrng
        have HL := Lib.hid (show r12.1.length ≤ 2000 from (by rw [hr]; exact Nat.le_trans (cutS_left 4 r11) HL.out))
        replace y6b : y6 ≤ 4294967295 := (by have h9 : ((256 ^ 4 : Nat) : Int) = 4294967296 := (by decide); omega)
        have HXy6 := Lib.hid (And.intro hx hr)
        have HS := Lib.hid hs
        have HR := Lib.hid hR
        clear hx hr hs hR
        obtain ⟨hcA, hfA, hlA⟩ := Blk.all (HS.out.at 1 rfl)
        go_upto_region 26 with fail
        have hs1 := (((((HS.out.swap1.set 3 (.int .u32 y3)).set 4 (.int .u32 y4)).set 5 (.int .u32 y5)).set 6 (.int .u32 y6))).swap1
        clear HS hcA hfA hlA
        generalize World.setCell (World.setCell _ _ _) _ _ = W5 at hs1 ⊢
        have HST := Lib.hid (show St J0 (bk q8 65 #[.int .u32 y1, .int .u8 (y2 / 16777216), .int .u32 (y2 % 16777216), .int .u32 y3, .int .u32 y4, .int .u32 y5, .int .u32 y6] :: b :: bk q 51 #[.int .i64 1, .int .u32 x1, .int .u32 0, .int .u64 (n1 * 4294967296 + n2), .int .u32 x3, .int .u32 x4, .int .u32 x5, .slice A L.length c, .string ⟨#[]⟩, .slice none 0 0, .slice none 0 0, .int .u16 0, .int .u32 0, .int .u8 0, .slice none 0 0, .slice none 0 0] :: row 65 7 (.slice A L.length c) L.length (flat repC L) :: M) W5 from hs1.swap1)
        clear hs1
        obtain ⟨h8, f8, l8⟩ := Blk.all (HST.out.at 0 rfl)
        obtain ⟨hcq, hfq, hlq⟩ := Blk.all (HST.out.at 2 rfl)
        have hsr := HST.out.litSrcV (P := Try.prog) (t := 46) (e := 65) (cs := #[.int .u32 y1, .int .u8 (y2 / 16777216), .int .u32 (y2 % 16777216), .int .u32 y3, .int .u32 y4, .int .u32 y5, .int .u32 y6]) (n := 1) (size := 7) rfl (by decide) Try.underlying46 (by simp [Value.oneCell'])
        have hsg := (HST.out.grow (.cells #[.int .u32 y1, .int .u8 (y2 / 16777216), .int .u32 (y2 % 16777216), .int .u32 y3, .int .u32 y4, .int .u32 y5, .int .u32 y6] 65)).rowUp3
        obtain ⟨i0, hi0, hz0, hz1, hz2⟩ := info_parts info65
        have HBR := Lib.hid (show L.length ≤ 2001 from by have := HIN.out.1; omega)
        go_wp2_with (at_builtin; refine wpList_append_src _ rfl _ _ 46 46 rfl 0 65 i0 _ 7 28 Try.underlying46 hi0 hz0 hz1 hz2 rfl _ L.length (flat repC L) rfl hsg.head _ 1 _ rfl hsr (by have := HBR.out; unfold maxLen; omega) (by have := HBR.out; omega) (Nat.zero_le _) ?_)
        intro v' w5 hown' hgrow hat
        have HMS := Lib.hid (show mS r12 < mS rL from by
          have m0 : mS r7 < mS rL := by rw [HXy1.out.2]; exact mS_cut (by decide) HLN.out.2.symm
          have m1 : mS r8 ≤ mS r7 := by rw [HXy2.out.2]; exact mS_le
          have m2 : mS r9 ≤ mS r8 := by rw [HXy3.out.2]; exact mS_le
          have m3 : mS r10 ≤ mS r9 := by rw [HXy4.out.2]; exact mS_le
          have m4 : mS r11 ≤ mS r10 := by rw [HXy5.out.2]; exact mS_le
          have m5 : mS r12 ≤ mS r11 := by rw [HXy6.out.2]; exact mS_le
          omega)
        have hown2 : w5.ownsRow 0 65 7 v' (L.length + 1) (flat repC (L ++ [(⟨y1, y2 / 16777216, y2 % 16777216, y3, y4, y5, y6⟩ : Rp)])) := by rw [flat_append]; exact hown'
        obtain ⟨A10, c10, rfl⟩ := own_form hown2
        have hs5 := hsg.grown hgrow hown2 (by simpa using hat)
        -- row :: q8 :: b :: q :: M
        have HS6 := Lib.hid (show St J0 (b :: bk q 51 #[.int .i64 1, .int .u32 x1, .int .u32 0, .int .u64 (n1 * 4294967296 + n2), .int .u32 x3, .int .u32 x4, .int .u32 x5, .slice A10 (L.length + 1) c10, .string ⟨#[]⟩, .slice none 0 0, .slice none 0 0, .int .u16 0, .int .u32 0, .int .u8 0, .slice none 0 0, .slice none 0 0] :: row 65 7 (.slice A10 (L.length + 1) c10) (L.length + 1) (flat repC (L ++ [(⟨y1, y2 / 16777216, y2 % 16777216, y3, y4, y5, y6⟩ : Rp)])) :: M) (w5.setCell ⟨q, 7, none⟩ (.slice A10 (L.length + 1) c10)) from (((hs5.swap1.drop.swap2.set 7 (.slice A10 (L.length + 1) c10)).swap1)))
        obtain ⟨hcp, hfp, hlp⟩ := Blk.all (hs5.at 3 rfl)
        clear hs5 hown' hown2 hgrow hat hsr hsg h8 f8 l8 hcq hfq hlq
        go_wp2
        go_roundw
        case rel =>
          refine ⟨L ++ [(⟨y1, y2 / 16777216, y2 % 16777216, y3, y4, y5, y6⟩ : Rp)], A10, c10, r12, b, Lib.hid ⟨by rw [List.length_append]; exact HS6.out, HR.out, HL.out, ?_, ?_, ?_⟩⟩
          · have h1 := HIN.out.1
            have h2 := HMS.out
            rw [List.length_append, List.length_singleton]
            omega
          · intro x hx
            rcases List.mem_append.1 hx with hx | hx
            · exact HIN.out.2.1 x hx
            · rw [List.mem_singleton.1 hx]
              exact rawRep y1a y1b y2a y2b y3a y3b y4a y4b y5a y5b y6a y6b
          · intro p hp
            obtain ⟨t, h1, h2⟩ := HIN.out.2.2 p hp
            obtain ⟨h3, h4⟩ := HLN.out
            have h3 := congrArg List.length (congrArg Prod.fst h2)
            obtain ⟨y, t', ht', hby⟩ := fm_more (by rw [← h3]; exact HPOS.out)
            rw [hby] at h2
            have hyr := (HT.out p hp).2.1.reps y (by rw [h1, ht']; simp)
            obtain ⟨he, h5⟩ := rdRep hyr h2 HXy1.out HXy2.out HXy3.out HXy4.out HXy5.out HXy6.out
            exact ⟨t', by rw [h1, ht', he]; simp, h5⟩
        case measure =>
          rw [rdM_of HR.out HS6.out, HM0.out]
          exact HMS.out
      · skip
        go_upto_region 41 with (first | (go_at_call 25; refine HLf.out.mono ?_; rintro e w3 ⟨rfl, hw⟩; subst hw) | (go_at_call 29; refine HBd.out.mono ?_; rintro e w3 ⟨rfl, hw⟩; subst hw))
        have HE := Lib.hid (show ∀ p, T p → p.reps = L from fun p hp => by
          obtain ⟨t, h1, h2⟩ := HIN.out.2.2 p hp
          obtain ⟨h3, h4⟩ := HLN.out
          rw [h2] at h4
          cases h4)
        have hb : Blk wr q 51 #[.int .i64 1, .int .u32 x1, .int .u32 0, .int .u64 (n1 * 4294967296 + n2), .int .u32 x3, .int .u32 x4, .int .u32 x5, .slice A L.length c, .string ⟨#[]⟩, .slice none 0 0, .slice none 0 0, .int .u16 0, .int .u32 0, .int .u8 0, .slice none 0 0, .slice none 0 0] := HS.out.at 1 rfl
        have hone : (#[.int .i64 1, .int .u32 x1, .int .u32 0, .int .u64 (n1 * 4294967296 + n2), .int .u32 x3, .int .u32 x4, .int .u32 x5, .slice A L.length c, .string ⟨#[]⟩, .slice none 0 0, .slice none 0 0, .int .u16 0, .int .u32 0, .int .u8 0, .slice none 0 0, .slice none 0 0] : Array Value).all (·.oneCell') = true := by kernel_rfl
        have HS6 := Lib.hid (HS.out.setR1 #[.int .i64 1, .int .u32 x1, .int .u32 0, .int .u64 (n1 * 4294967296 + n2), .int .u32 x3, .int .u32 x4, .int .u32 x5, .slice A L.length c, .string ⟨#[]⟩, .slice none 0 0, .slice none 0 0, .int .u16 0, .int .u32 0, .int .u8 0, .slice none 0 0, .slice none 0 0])
        go_wp2_with (first | refine wpList_load_row rfl 51 (.tmp 6) rfl q rfl 51 _ (0, 0) _ hb hd rfl st51I ?_ | refine wpList_store_row rfl 51 (.tmp 6) (.tmp _) rfl q #[.int .i64 1, .int .u32 x1, .int .u32 0, .int .u64 (n1 * 4294967296 + n2), .int .u32 x3, .int .u32 x4, .int .u32 x5, .slice A L.length c, .string ⟨#[]⟩, .slice none 0 0, .slice none 0 0, .int .u16 0, .int .u32 0, .int .u8 0, .slice none 0 0, .slice none 0 0] rfl rfl 51 _ hb st51I rfl hone ?_)
        refine bodyPost_ret (results_cell_row (p := 6) Try.results30 _ _ q 51 _ (0, 0) _ rfl (HS6.out.at 1 rfl) hd rfl st51I) rfl ?_
        have hcap := (own_cap (show World.ownsRow _ 0 65 7 (.slice A L.length c) L.length _ from HS6.out.at 2 rfl)).2
        obtain ⟨J2, hle2, hs7, hcl⟩ := HS6.out.drop.drop.freezeRow
        refine ⟨J2, ⟨1, x1, 0, (n1 * 4294967296 + n2), x3, x4, x5, L, ⟨#[]⟩, [], [], 0, 0, 0, [], []⟩, ⟨.slice A L.length c, nilV, nilV, nilV, nilV⟩, rfl, hle2, hs7, ⟨⟨A, c, rfl, hcl, hcap⟩, SlC.nil J2 _, SlC.nil J2 _, SlC.nil J2 _, SlC.nil J2 _⟩, raw_mk ⟨x1a, x1b⟩ (by simp) ⟨hnt.1, hnt.2⟩ ⟨x3a, x3b⟩ ⟨x4a, x4b⟩ ⟨x5a, x5b⟩ HIN.out.2.1 (by simp) (by simp) (by simp) (by simp) (by simp) (by simp) (by have := HIN.out.1; simp only []; omega) (Nat.zero_le _) (Nat.zero_le _) (Nat.zero_le _) (Nat.zero_le _) (Nat.zero_le _), .inl rfl, fun p hp => ?_⟩
        have h5 := (HF.out p hp).1
        rw [HE.out p hp] at h5
        exact h5
end Go.Proofs.Ytddopbbmgpnjjaa
namespace Go.Proofs.Ytddopbbmgpnjjaa
open Go.RowKit
set_option linter.unusedSimpArgs false

set_option maxRecDepth 100000 in
set_option maxHeartbeats 20000000 in
theorem read2 (J0 : Img) (M : List Res) (w : World) (f s : Int) (p9 : Nat) (r : RS) (b : Res) (T : Pk → Prop) (hT : ∀ p, T p → Good p ∧ PkOk p ∧ p.kind = 2 ∧ r = (evenL (bodyL p), false)) (hk : kindP f s = 2) (hf : 0 ≤ f ∧ f ≤ 255) (hl : r.1.length ≤ 2000) (hst : St J0 (b :: M) w) (hR : Rdr J0 p9 r b) :
    Calls Try.prog 30 #[.int .u8 f, .int .u8 s, .pointer (some ⟨p9, 0, none⟩)] w (RdOk J0 M T) := by
  have HT := Lib.hid hT
  have HK := kindC f s (w.alloc (.cells #[.int .i64 0, .int .u32 0, .int .u32 0, .int .u64 0, .int .u32 0, .int .u32 0, .int .u32 0, .slice none 0 0, .string ⟨#[]⟩, .slice none 0 0, .slice none 0 0, .int .u16 0, .int .u32 0, .int .u8 0, .slice none 0 0, .slice none 0 0] 51)) hf
  rw [hk] at HK
  have HK := Lib.hid HK
  have HR := Lib.hid hR
  have hs1 := (hst.alloc 51 #[.int .i64 0, .int .u32 0, .int .u32 0, .int .u64 0, .int .u32 0, .int .u32 0, .int .u32 0, .slice none 0 0, .string ⟨#[]⟩, .slice none 0 0, .slice none 0 0, .int .u16 0, .int .u32 0, .int .u8 0, .slice none 0 0, .slice none 0 0]).swap1
  obtain ⟨q, hq⟩ : ∃ q, q = w.heap.size := ⟨_, rfl⟩
  rw [← hq] at hs1
  have HL := Lib.hid hl
  clear hT hk hR hst hl
  obtain ⟨fs, hd⟩ := st51D
  go_enter Try.func30, Try.ntmps30
  go_upto_region 1 with fail
  rw [← hq]
  clear hq
  generalize World.alloc w _ = W at hs1 HK ⊢
  have HS := Lib.hid hs1
  clear hs1
  obtain ⟨hcA, hfA, hlA⟩ := Blk.all (HS.out.at 1 rfl)
  go_wp2_with fail
  go_at_call 61
  refine HK.out.mono ?_
  clear HK
  rintro e w0 ⟨rfl, hw⟩
  subst hw
  have hs9 : St J0 (b :: bk q 51 #[.int .i64 2, .int .u32 0, .int .u32 0, .int .u64 0, .int .u32 0, .int .u32 0, .int .u32 0, .slice none 0 0, .string ⟨#[]⟩, .slice none 0 0, .slice none 0 0, .int .u16 0, .int .u32 0, .int .u8 0, .slice none 0 0, .slice none 0 0] :: M) ((W).setCell ⟨q, 0, none⟩ (.int .i64 2)) := (HS.out.swap1.set 0 (.int .i64 2)).swap1
  have HS := Lib.hid hs9
  clear hs9
  obtain ⟨hcB, hfB, hlB⟩ := Blk.all (HS.out.at 1 rfl)
  have HC := Lib.hid (rd_u32 (I := J0) p9 r b HS.out HR.out)
  go_wp2_with fail
  go_at_call 62
  refine HC.out.mono ?_
  clear HC HS HR hcA hfA hlA
  try clear hcB hfB hlB
  rintro e w1 ⟨_, _, _, rfl, _, hs, rfl, rfl, b, hR, rfl⟩
  obtain ⟨x1, hx⟩ : ∃ z, z = ((numL (cutS 4 r).1 : Nat) : Int) := ⟨_, rfl⟩
  obtain ⟨r1, hr⟩ : ∃ z, z = (cutS 4 r).2 := ⟨_, rfl⟩
  have hrng := nm_rng 4 r 4 (by decide)
  rw [← hx] at hrng ⊢
  rw [← hr] at hR
  obtain ⟨x1a, x1b⟩ := hrng
  have HL := Lib.hid (show r1.1.length ≤ 2000 from (by rw [hr]; exact Nat.le_trans (cutS_left 4 r) HL.out))
  replace x1b : x1 ≤ 4294967295 := (by have h9 : ((256 ^ 4 : Nat) : Int) = 4294967296 := (by decide); omega)
  have HXx1 := Lib.hid (And.intro hx hr)
  have HS := Lib.hid hs
  have HR := Lib.hid hR
  clear hx hr hs hR
  obtain ⟨hcA, hfA, hlA⟩ := Blk.all (HS.out.at 1 rfl)
  have hs9 : St J0 (b :: bk q 51 #[.int .i64 2, .int .u32 x1, .int .u32 0, .int .u64 0, .int .u32 0, .int .u32 0, .int .u32 0, .slice none 0 0, .string ⟨#[]⟩, .slice none 0 0, .slice none 0 0, .int .u16 0, .int .u32 0, .int .u8 0, .slice none 0 0, .slice none 0 0] :: M) ((w1).setCell ⟨q, 1, none⟩ (.int .u32 x1)) := (HS.out.swap1.set 1 (.int .u32 x1)).swap1
  have HS := Lib.hid hs9
  clear hs9
  obtain ⟨hcB, hfB, hlB⟩ := Blk.all (HS.out.at 1 rfl)
  have HF := Lib.hid (show ∀ p, T p → (⟨2, x1, 0, 0, 0, 0, 0, p.reps, ⟨#[]⟩, [], [], 0, 0, 0, [], []⟩ : Pk) = p ∧ r1 = (p.reps.flatMap repL, false) from fun p hp => by
    obtain ⟨hg, hok, hk, hr⟩ := HT.out p hp
    obtain ⟨h1, h2⟩ := shape2 hg hk
    rw [h2] at hr
    obtain ⟨h3, h4⟩ := rd4_of HXx1.out hok.sender hr
    rw [h3, ← h1]
    exact ⟨rfl, h4⟩)
  go_upto_region 17 with fail
  generalize World.setCell _ _ _ = W2 at HS hcB hfB hlB ⊢
  have hsr := (HS.out.nil (e := 65) (size := 7)).up12
  clear HS
  have HS := Lib.hid hsr
  clear hsr
  try clear hcA hfA hlA
  clear hcB hfB hlB
  go_loopw [] (fun wr => ∃ (L : List Rp) (A : Option Addr) (c : Nat) (rL : RS) (b9 : Res), Hid (St J0 (b9 :: bk q 51 #[.int .i64 2, .int .u32 x1, .int .u32 0, .int .u64 0, .int .u32 0, .int .u32 0, .int .u32 0, .slice A L.length c, .string ⟨#[]⟩, .slice none 0 0, .slice none 0 0, .int .u16 0, .int .u32 0, .int .u8 0, .slice none 0 0, .slice none 0 0] :: row 65 7 (.slice A L.length c) L.length (flat repC L) :: M) wr ∧ Rdr J0 p9 rL b9 ∧ rL.1.length ≤ 2000 ∧ L.length + 1 * mS rL ≤ 2001 ∧ (∀ x ∈ L, RpRaw x) ∧ ∀ p, T p → ∃ t, p.reps = L ++ t ∧ rL = (t.flatMap repL, false))) (fun wr => rdM wr p9)
  case atStart => exact ⟨[], none, 0, r1, b, Lib.hid ⟨HS.out, HR.out, HL.out, by have := mS_lt HL.out; simp only [List.length_nil]; omega, by simp, fun p hp => ⟨p.reps, rfl, (HF.out p hp).2⟩⟩⟩
  case round =>
    obtain ⟨L, A, c, rL, b, hh⟩ := hrel
    obtain ⟨hs, hR, hl9, hlen, hraw, ht⟩ := hh.out
    clear hh HS HR HL
    have HS := Lib.hid hs
    have HR := Lib.hid hR
    have HL := Lib.hid hl9
    have HIN := Lib.hid (And.intro hlen (And.intro hraw ht))
    clear hs hR hl9 hlen hraw ht
    obtain ⟨hcA, hfA, hlA⟩ := Blk.all (HS.out.at 1 rfl)
    have HLf := Lib.hid (rd_left (I := J0) p9 rL b HS.out HR.out)
    have HBd := Lib.hid (rd_bad (I := J0) p9 rL b HS.out HR.out)
    obtain ⟨ln, hln⟩ : ∃ n, n = rL.1.length := ⟨_, rfl⟩
    obtain ⟨bd, hbd⟩ : ∃ x, x = rL.2 := ⟨_, rfl⟩
    rw [← hln] at HLf
    rw [← hbd] at HBd
    have HLN := Lib.hid (And.intro hln hbd)
    clear hln hbd
    rcases Nat.eq_zero_or_pos ln with h0 | h0
    · subst h0
      go_upto_region 41 with (go_at_call 25; refine HLf.out.mono ?_; rintro e w3 ⟨rfl, hw⟩; subst hw)
      have HE := Lib.hid (show ∀ p, T p → p.reps = L from fun p hp => by
        obtain ⟨t, h1, h2⟩ := HIN.out.2.2 p hp
        obtain ⟨h3, h4⟩ := HLN.out
        rw [h2] at h3
        rw [h1, fm_zero (fun x => by rw [repL_len]; decide) h3.symm, List.append_nil])
      have hb : Blk wr q 51 #[.int .i64 2, .int .u32 x1, .int .u32 0, .int .u64 0, .int .u32 0, .int .u32 0, .int .u32 0, .slice A L.length c, .string ⟨#[]⟩, .slice none 0 0, .slice none 0 0, .int .u16 0, .int .u32 0, .int .u8 0, .slice none 0 0, .slice none 0 0] := HS.out.at 1 rfl
      have hone : (#[.int .i64 2, .int .u32 x1, .int .u32 0, .int .u64 0, .int .u32 0, .int .u32 0, .int .u32 0, .slice A L.length c, .string ⟨#[]⟩, .slice none 0 0, .slice none 0 0, .int .u16 0, .int .u32 0, .int .u8 0, .slice none 0 0, .slice none 0 0] : Array Value).all (·.oneCell') = true := by kernel_rfl
      have HS6 := Lib.hid (HS.out.setR1 #[.int .i64 2, .int .u32 x1, .int .u32 0, .int .u64 0, .int .u32 0, .int .u32 0, .int .u32 0, .slice A L.length c, .string ⟨#[]⟩, .slice none 0 0, .slice none 0 0, .int .u16 0, .int .u32 0, .int .u8 0, .slice none 0 0, .slice none 0 0])
      go_wp2_with (first | refine wpList_load_row rfl 51 (.tmp 6) rfl q rfl 51 _ (0, 0) _ hb hd rfl st51I ?_ | refine wpList_store_row rfl 51 (.tmp 6) (.tmp _) rfl q #[.int .i64 2, .int .u32 x1, .int .u32 0, .int .u64 0, .int .u32 0, .int .u32 0, .int .u32 0, .slice A L.length c, .string ⟨#[]⟩, .slice none 0 0, .slice none 0 0, .int .u16 0, .int .u32 0, .int .u8 0, .slice none 0 0, .slice none 0 0] rfl rfl 51 _ hb st51I rfl hone ?_)
      refine bodyPost_ret (results_cell_row (p := 6) Try.results30 _ _ q 51 _ (0, 0) _ rfl (HS6.out.at 1 rfl) hd rfl st51I) rfl ?_
      have hcap := (own_cap (show World.ownsRow _ 0 65 7 (.slice A L.length c) L.length _ from HS6.out.at 2 rfl)).2
      obtain ⟨J2, hle2, hs7, hcl⟩ := HS6.out.drop.drop.freezeRow
      refine ⟨J2, ⟨2, x1, 0, 0, 0, 0, 0, L, ⟨#[]⟩, [], [], 0, 0, 0, [], []⟩, ⟨.slice A L.length c, nilV, nilV, nilV, nilV⟩, rfl, hle2, hs7, ⟨⟨A, c, rfl, hcl, hcap⟩, SlC.nil J2 _, SlC.nil J2 _, SlC.nil J2 _, SlC.nil J2 _⟩, raw_mk ⟨x1a, x1b⟩ (by simp) (by simp) (by simp) (by simp) (by simp) HIN.out.2.1 (by simp) (by simp) (by simp) (by simp) (by simp) (by simp) (by have := HIN.out.1; simp only []; omega) (Nat.zero_le _) (Nat.zero_le _) (Nat.zero_le _) (Nat.zero_le _) (Nat.zero_le _), .inl rfl, fun p hp => ?_⟩
      have h5 := (HF.out p hp).1
      rw [HE.out p hp] at h5
      exact h5
    · have h0i : (0 : Int) < (ln : Int) := by omega
      cases bd
      · skip
        have HPOS := Lib.hid (show 0 < rL.1.length from HLN.out.1 ▸ h0)
        have HM0 := Lib.hid (rdM_of HR.out HS.out)
        go_upto_region 22 with (first | (go_at_call 25; refine HLf.out.mono ?_; rintro e w3 ⟨rfl, hw⟩; subst hw) | (go_at_call 29; refine HBd.out.mono ?_; rintro e w3 ⟨rfl, hw⟩; subst hw))
        have HC := Lib.hid (rd_u32 (I := J0) p9 rL b HS.out HR.out)
        go_wp2_with fail
        go_at_call 62
        refine HC.out.mono ?_
        clear HC HS HR hcA hfA hlA
        try clear hcB hfB hlB
        rintro e w2 ⟨_, _, _, rfl, _, hs, rfl, rfl, b, hR, rfl⟩
        obtain ⟨y1, hx⟩ : ∃ z, z = ((numL (cutS 4 rL).1 : Nat) : Int) := ⟨_, rfl⟩
        obtain ⟨r2, hr⟩ : ∃ z, z = (cutS 4 rL).2 := ⟨_, rfl⟩
        have hrng := nm_rng 4 rL 4 (by decide)
        rw [← hx] at hrng ⊢
        rw [← hr] at hR
        obtain ⟨y1a, y1b⟩ := hrng
        have HL := Lib.hid (show r2.1.length ≤ 2000 from (by rw [hr]; exact Nat.le_trans (cutS_left 4 rL) HL.out))
        replace y1b : y1 ≤ 4294967295 := (by have h9 : ((256 ^ 4 : Nat) : Int) = 4294967296 := (by decide); omega)
        have HXy1 := Lib.hid (And.intro hx hr)
        have HS := Lib.hid hs
        have HR := Lib.hid hR
        clear hx hr hs hR
        obtain ⟨hcA, hfA, hlA⟩ := Blk.all (HS.out.at 1 rfl)
        have hs1 := (HS.out.alloc 65 #[.int .u32 y1, .int .u8 0, .int .u32 0, .int .u32 0, .int .u32 0, .int .u32 0, .int .u32 0]).swap1
        obtain ⟨q8, hq8⟩ : ∃ q, q = w2.heap.size := ⟨_, rfl⟩
        rw [← hq8] at hs1
        clear HS
        have HS := Lib.hid hs1
        clear hs1
        go_upto_region 23 with fail
        rw [← hq8]
        clear hq8 hcA hfA hlA
        generalize World.alloc w2 _ = W3 at HS ⊢
        obtain ⟨hcA, hfA, hlA⟩ := Blk.all (HS.out.at 1 rfl)
        have HC := Lib.hid (rd_u32 (I := J0) p9 r2 b HS.out HR.out)
        go_wp2_with fail
        go_at_call 62
        refine HC.out.mono ?_
        clear HC HS HR hcA hfA hlA
        try clear hcB hfB hlB
        rintro e w3 ⟨_, _, _, rfl, _, hs, rfl, rfl, b, hR, rfl⟩
        obtain ⟨y2, hx⟩ : ∃ z, z = ((numL (cutS 4 r2).1 : Nat) : Int) := ⟨_, rfl⟩
        obtain ⟨r3, hr⟩ : ∃ z, z = (cutS 4 r2).2 := ⟨_, rfl⟩
        have hrng := nm_rng 4 r2 4 (by decide)
        rw [← hx] at hrng ⊢
        rw [← hr] at hR
        obtain ⟨y2a, y2b⟩ := hrng
        have HL := Lib.hid (show r3.1.length ≤ 2000 from (by rw [hr]; exact Nat.le_trans (cutS_left 4 r2) HL.out))
        replace y2b : y2 ≤ 4294967295 := (by have h9 : ((256 ^ 4 : Nat) : Int) = 4294967296 := (by decide); omega)
        have HXy2 := Lib.hid (And.intro hx hr)
        have HS := Lib.hid hs
        have HR := Lib.hid hR
        clear hx hr hs hR
        obtain ⟨hcA, hfA, hlA⟩ := Blk.all (HS.out.at 1 rfl)
        have hand := and_24 y2a y2b
        have hdv0 : 0 ≤ y2 / 16777216 := by omega
        have hdv1 : y2 / 16777216 ≤ 255 := by omega
        go_upto_region 25 with fail
        have hs1 := ((HS.out.swap1.set 1 (.int .u8 (y2 / 16777216))).set 2 (.int .u32 (y2 % 16777216))).swap1
        clear HS
        have HS := Lib.hid hs1
        clear hs1 hcA hfA hlA hand
        generalize World.setCell (World.setCell _ _ _) _ _ = W4 at HS ⊢
        obtain ⟨hcA, hfA, hlA⟩ := Blk.all (HS.out.at 1 rfl)
        have HC := Lib.hid (rd_u32 (I := J0) p9 r3 b HS.out HR.out)
        go_wp2_with fail
        go_at_call 62
        refine HC.out.mono ?_
        clear HC HS HR hcA hfA hlA
        try clear hcB hfB hlB
        rintro e w4 ⟨_, _, _, rfl, _, hs, rfl, rfl, b, hR, rfl⟩
        obtain ⟨y3, hx⟩ : ∃ z, z = ((numL (cutS 4 r3).1 : Nat) : Int) := ⟨_, rfl⟩
        obtain ⟨r4, hr⟩ : ∃ z, z = (cutS 4 r3).2 := ⟨_, rfl⟩
        have hrng := nm_rng 4 r3 4 (by decide)
        rw [← hx] at hrng ⊢
        rw [← hr] at hR
        obtain ⟨y3a, y3b⟩ := hrng
        have HL := Lib.hid (show r4.1.length ≤ 2000 from (by rw [hr]; exact Nat.le_trans (cutS_left 4 r3) HL.out))
        replace y3b : y3 ≤ 4294967295 := (by have h9 : ((256 ^ 4 : Nat) : Int) = 4294967296 := (by decide); omega)
        have HXy3 := Lib.hid (And.intro hx hr)
        have HS := Lib.hid hs
        have HR := Lib.hid hR
        clear hx hr hs hR
        obtain ⟨hcA, hfA, hlA⟩ := Blk.all (HS.out.at 1 rfl)
        have HC := Lib.hid (rd_u32 (I := J0) p9 r4 b HS.out HR.out)
        go_wp2_with fail
        go_at_call 62
        refine HC.out.mono ?_
        clear HC HS HR hcA hfA hlA
        try clear hcB hfB hlB
        rintro e w5 ⟨_, _, _, rfl, _, hs, rfl, rfl, b, hR, rfl⟩
        obtain ⟨y4, hx⟩ : ∃ z, z = ((numL (cutS 4 r4).1 : Nat) : Int) := ⟨_, rfl⟩
        obtain ⟨r5, hr⟩ : ∃ z, z = (cutS 4 r4).2 := ⟨_, rfl⟩
        have hrng := nm_rng 4 r4 4 (by decide)
        rw [← hx] at hrng ⊢
        rw [← hr] at hR
        obtain ⟨y4a, y4b⟩ := hrng
        have HL := Lib.hid (show r5.1.length ≤ 2000 from (by rw [hr]; exact Nat.le_trans (cutS_left 4 r4) HL.out))
        replace y4b : y4 ≤ 4294967295 := (by have h9 : ((256 ^ 4 : Nat) : Int) = 4294967296 := (by decide); omega)
        have HXy4 := Lib.hid (And.intro hx hr)
        have HS := Lib.hid hs
        have HR := Lib.hid hR
        clear hx hr hs hR
        obtain ⟨hcA, hfA, hlA⟩ := Blk.all (HS.out.at 1 rfl)
        have HC := Lib.hid (rd_u32 (I := J0) p9 r5 b HS.out HR.out)
        go_wp2_with fail
        go_at_call 62
        refine HC.out.mono ?_
        clear HC HS HR hcA hfA hlA
        try clear hcB hfB hlB
        rintro e w6 ⟨_, _, _, rfl, _, hs, rfl, rfl, b, hR, rfl⟩
        obtain ⟨y5, hx⟩ : ∃ z, z = ((numL (cutS 4 r5).1 : Nat) : Int) := ⟨_, rfl⟩
        obtain ⟨r6, hr⟩ : ∃ z, z = (cutS 4 r5).2 := ⟨_, rfl⟩
        have hrng := nm_rng 4 r5 4 (by decide)
        rw [← hx] at hrng ⊢
        rw [← hr] at hR
        obtain ⟨y5a, y5b⟩ := hrng
        have HL := Lib.hid (show r6.1.length ≤ 2000 from (by rw [hr]; exact Nat.le_trans (cutS_left 4 r5) HL.out))
        replace y5b : y5 ≤ 4294967295 := (by have h9 : ((256 ^ 4 : Nat) : Int) = 4294967296 := (by decide); omega)
        have HXy5 := Lib.hid (And.intro hx hr)
        have HS := Lib.hid hs
        have HR := Lib.hid hR
        clear hx hr hs hR
        obtain ⟨hcA, hfA, hlA⟩ := Blk.all (HS.out.at 1 rfl)
        have HC := Lib.hid (rd_u32 (I := J0) p9 r6 b HS.out HR.out)
        go_wp2_with fail
        go_at_call 62
        refine HC.out.mono ?_
        clear HC HS HR hcA hfA hlA
        try clear hcB hfB hlB
        rintro e w7 ⟨_, _, _, rfl, _, hs, rfl, rfl, b, hR, rfl⟩
        obtain ⟨y6, hx⟩ : ∃ z, z = ((numL (cutS 4 r6).1 : Nat) : Int) := ⟨_, rfl⟩
        obtain ⟨r7, hr⟩ : ∃ z, z = (cutS 4 r6).2 := ⟨_, rfl⟩
        have hrng := nm_rng 4 r6 4 (by decide)
        rw [← hx] at hrng ⊢
        rw [← hr] at hR
        obtain ⟨y6a, y6b⟩ := hrng
        have HL := Lib.hid (show r7.1.length ≤ 2000 from (by rw [hr]; exact Nat.le_trans (cutS_left 4 r6) HL.out))
        replace y6b : y6 ≤ 4294967295 := (by have h9 : ((256 ^ 4 : Nat) : Int) = 4294967296 := (by decide); omega)
        have HXy6 := Lib.hid (And.intro hx hr)
        have HS := Lib.hid hs
        have HR := Lib.hid hR
        clear hx hr hs hR
        obtain ⟨hcA, hfA, hlA⟩ := Blk.all (HS.out.at 1 rfl)
        go_upto_region 26 with fail
        have hs1 := (((((HS.out.swap1.set 3 (.int .u32 y3)).set 4 (.int .u32 y4)).set 5 (.int .u32 y5)).set 6 (.int .u32 y6))).swap1
        clear HS hcA hfA hlA
        generalize World.setCell (World.setCell _ _ _) _ _ = W5 at hs1 ⊢
        have HST := Lib.hid (show St J0 (bk q8 65 #[.int .u32 y1, .int .u8 (y2 / 16777216), .int .u32 (y2 % 16777216), .int .u32 y3, .int .u32 y4, .int .u32 y5, .int .u32 y6] :: b :: bk q 51 #[.int .i64 2, .int .u32 x1, .int .u32 0, .int .u64 0, .int .u32 0, .int .u32 0, .int .u32 0, .slice A L.length c, .string ⟨#[]⟩, .slice none 0 0, .slice none 0 0, .int .u16 0, .int .u32 0, .int .u8 0, .slice none 0 0, .slice none 0 0] :: row 65 7 (.slice A L.length c) L.length (flat repC L) :: M) W5 from hs1.swap1)
        clear hs1
        obtain ⟨h8, f8, l8⟩ := Blk.all (HST.out.at 0 rfl)
        obtain ⟨hcq, hfq, hlq⟩ := Blk.all (HST.out.at 2 rfl)
        have hsr := HST.out.litSrcV (P := Try.prog) (t := 46) (e := 65) (cs := #[.int .u32 y1, .int .u8 (y2 / 16777216), .int .u32 (y2 % 16777216), .int .u32 y3, .int .u32 y4, .int .u32 y5, .int .u32 y6]) (n := 1) (size := 7) rfl (by decide) Try.underlying46 (by simp [Value.oneCell'])
        have hsg := (HST.out.grow (.cells #[.int .u32 y1, .int .u8 (y2 / 16777216), .int .u32 (y2 % 16777216), .int .u32 y3, .int .u32 y4, .int .u32 y5, .int .u32 y6] 65)).rowUp3
        obtain ⟨i0, hi0, hz0, hz1, hz2⟩ := info_parts info65
        have HBR := Lib.hid (show L.length ≤ 2001 from by have := HIN.out.1; omega)
        go_wp2_with (at_builtin; refine wpList_append_src _ rfl _ _ 46 46 rfl 0 65 i0 _ 7 28 Try.underlying46 hi0 hz0 hz1 hz2 rfl _ L.length (flat repC L) rfl hsg.head _ 1 _ rfl hsr (by have := HBR.out; unfold maxLen; omega) (by have := HBR.out; omega) (Nat.zero_le _) ?_)
        intro v' w5 hown' hgrow hat
        have HMS := Lib.hid (show mS r7 < mS rL from by
          have m0 : mS r2 < mS rL := by rw [HXy1.out.2]; exact mS_cut (by decide) HLN.out.2.symm
          have m1 : mS r3 ≤ mS r2 := by rw [HXy2.out.2]; exact mS_le
          have m2 : mS r4 ≤ mS r3 := by rw [HXy3.out.2]; exact mS_le
          have m3 : mS r5 ≤ mS r4 := by rw [HXy4.out.2]; exact mS_le
          have m4 : mS r6 ≤ mS r5 := by rw [HXy5.out.2]; exact mS_le
          have m5 : mS r7 ≤ mS r6 := by rw [HXy6.out.2]; exact mS_le
          omega)
        have hown2 : w5.ownsRow 0 65 7 v' (L.length + 1) (flat repC (L ++ [(⟨y1, y2 / 16777216, y2 % 16777216, y3, y4, y5, y6⟩ : Rp)])) := by rw [flat_append]; exact hown'
        obtain ⟨A10, c10, rfl⟩ := own_form hown2
        have hs5 := hsg.grown hgrow hown2 (by simpa using hat)
        -- row :: q8 :: b :: q :: M
        have HS6 := Lib.hid (show St J0 (b :: bk q 51 #[.int .i64 2, .int .u32 x1, .int .u32 0, .int .u64 0, .int .u32 0, .int .u32 0, .int .u32 0, .slice A10 (L.length + 1) c10, .string ⟨#[]⟩, .slice none 0 0, .slice none 0 0, .int .u16 0, .int .u32 0, .int .u8 0, .slice none 0 0, .slice none 0 0] :: row 65 7 (.slice A10 (L.length + 1) c10) (L.length + 1) (flat repC (L ++ [(⟨y1, y2 / 16777216, y2 % 16777216, y3, y4, y5, y6⟩ : Rp)])) :: M) (w5.setCell ⟨q, 7, none⟩ (.slice A10 (L.length + 1) c10)) from (((hs5.swap1.drop.swap2.set 7 (.slice A10 (L.length + 1) c10)).swap1)))
        obtain ⟨hcp, hfp, hlp⟩ := Blk.all (hs5.at 3 rfl)
        clear hs5 hown' hown2 hgrow hat hsr hsg h8 f8 l8 hcq hfq hlq
        go_wp2
        go_roundw
        case rel =>
          refine ⟨L ++ [(⟨y1, y2 / 16777216, y2 % 16777216, y3, y4, y5, y6⟩ : Rp)], A10, c10, r7, b, Lib.hid ⟨by rw [List.length_append]; exact HS6.out, HR.out, HL.out, ?_, ?_, ?_⟩⟩
          · have h1 := HIN.out.1
            have h2 := HMS.out
            rw [List.length_append, List.length_singleton]
            omega
          · intro x hx
            rcases List.mem_append.1 hx with hx | hx
            · exact HIN.out.2.1 x hx
            · rw [List.mem_singleton.1 hx]
              exact rawRep y1a y1b y2a y2b y3a y3b y4a y4b y5a y5b y6a y6b
          · intro p hp
            obtain ⟨t, h1, h2⟩ := HIN.out.2.2 p hp
            obtain ⟨h3, h4⟩ := HLN.out
            have h3 := congrArg List.length (congrArg Prod.fst h2)
            obtain ⟨y, t', ht', hby⟩ := fm_more (by rw [← h3]; exact HPOS.out)
            rw [hby] at h2
            have hyr := (HT.out p hp).2.1.reps y (by rw [h1, ht']; simp)
            obtain ⟨he, h5⟩ := rdRep hyr h2 HXy1.out HXy2.out HXy3.out HXy4.out HXy5.out HXy6.out
            exact ⟨t', by rw [h1, ht', he]; simp, h5⟩
        case measure =>
          rw [rdM_of HR.out HS6.out, HM0.out]
          exact HMS.out
      · skip
        go_upto_region 41 with (first | (go_at_call 25; refine HLf.out.mono ?_; rintro e w3 ⟨rfl, hw⟩; subst hw) | (go_at_call 29; refine HBd.out.mono ?_; rintro e w3 ⟨rfl, hw⟩; subst hw))
        have HE := Lib.hid (show ∀ p, T p → p.reps = L from fun p hp => by
          obtain ⟨t, h1, h2⟩ := HIN.out.2.2 p hp
          obtain ⟨h3, h4⟩ := HLN.out
          rw [h2] at h4
          cases h4)
        have hb : Blk wr q 51 #[.int .i64 2, .int .u32 x1, .int .u32 0, .int .u64 0, .int .u32 0, .int .u32 0, .int .u32 0, .slice A L.length c, .string ⟨#[]⟩, .slice none 0 0, .slice none 0 0, .int .u16 0, .int .u32 0, .int .u8 0, .slice none 0 0, .slice none 0 0] := HS.out.at 1 rfl
        have hone : (#[.int .i64 2, .int .u32 x1, .int .u32 0, .int .u64 0, .int .u32 0, .int .u32 0, .int .u32 0, .slice A L.length c, .string ⟨#[]⟩, .slice none 0 0, .slice none 0 0, .int .u16 0, .int .u32 0, .int .u8 0, .slice none 0 0, .slice none 0 0] : Array Value).all (·.oneCell') = true := by kernel_rfl
        have HS6 := Lib.hid (HS.out.setR1 #[.int .i64 2, .int .u32 x1, .int .u32 0, .int .u64 0, .int .u32 0, .int .u32 0, .int .u32 0, .slice A L.length c, .string ⟨#[]⟩, .slice none 0 0, .slice none 0 0, .int .u16 0, .int .u32 0, .int .u8 0, .slice none 0 0, .slice none 0 0])
        go_wp2_with (first | refine wpList_load_row rfl 51 (.tmp 6) rfl q rfl 51 _ (0, 0) _ hb hd rfl st51I ?_ | refine wpList_store_row rfl 51 (.tmp 6) (.tmp _) rfl q #[.int .i64 2, .int .u32 x1, .int .u32 0, .int .u64 0, .int .u32 0, .int .u32 0, .int .u32 0, .slice A L.length c, .string ⟨#[]⟩, .slice none 0 0, .slice none 0 0, .int .u16 0, .int .u32 0, .int .u8 0, .slice none 0 0, .slice none 0 0] rfl rfl 51 _ hb st51I rfl hone ?_)
        refine bodyPost_ret (results_cell_row (p := 6) Try.results30 _ _ q 51 _ (0, 0) _ rfl (HS6.out.at 1 rfl) hd rfl st51I) rfl ?_
        have hcap := (own_cap (show World.ownsRow _ 0 65 7 (.slice A L.length c) L.length _ from HS6.out.at 2 rfl)).2
        obtain ⟨J2, hle2, hs7, hcl⟩ := HS6.out.drop.drop.freezeRow
        refine ⟨J2, ⟨2, x1, 0, 0, 0, 0, 0, L, ⟨#[]⟩, [], [], 0, 0, 0, [], []⟩, ⟨.slice A L.length c, nilV, nilV, nilV, nilV⟩, rfl, hle2, hs7, ⟨⟨A, c, rfl, hcl, hcap⟩, SlC.nil J2 _, SlC.nil J2 _, SlC.nil J2 _, SlC.nil J2 _⟩, raw_mk ⟨x1a, x1b⟩ (by simp) (by simp) (by simp) (by simp) (by simp) HIN.out.2.1 (by simp) (by simp) (by simp) (by simp) (by simp) (by simp) (by have := HIN.out.1; simp only []; omega) (Nat.zero_le _) (Nat.zero_le _) (Nat.zero_le _) (Nat.zero_le _) (Nat.zero_le _), .inl rfl, fun p hp => ?_⟩
        have h5 := (HF.out p hp).1
        rw [HE.out p hp] at h5
        exact h5
end Go.Proofs.Ytddopbbmgpnjjaa
