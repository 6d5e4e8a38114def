/- rtcp.read of a body of kind 4. -/
import Derived.Test.YtddopbbmgpnjjaaRrC
namespace Go.Proofs.Ytddopbbmgpnjjaa
open Go.RowKit
set_option linter.unusedSimpArgs false

set_option maxRecDepth 100000 in
set_option maxHeartbeats 20000000 in
theorem read0 (J0 : Img) (M : List Res) (w : World) (f s : Int) (p9 : Nat) (r : RS) (b : Res) (T : Pk → Prop) (hT : ∀ p, T p → Good p ∧ PkOk p ∧ p.kind = 0 ∧ r = (evenL (bodyL p), false)) (hk : kindP f s = 0) (hf : 0 ≤ f ∧ f ≤ 255) (hl : r.1.length ≤ 2000) (hst : St J0 (b :: M) w) (hR : Rdr J0 p9 r b) :
    Calls Try.prog 30 #[.int .u8 f, .int .u8 s, .pointer (some ⟨p9, 0, none⟩)] w (RdOk J0 M T) := by
  have HT := Lib.hid hT
  have HK := kindC f s (w.alloc (.cells #[.int .i64 0, .int .u32 0, .int .u32 0, .int .u64 0, .int .u32 0, .int .u32 0, .int .u32 0, .slice none 0 0, .string ⟨#[]⟩, .slice none 0 0, .slice none 0 0, .int .u16 0, .int .u32 0, .int .u8 0, .slice none 0 0, .slice none 0 0] 51)) hf
  rw [hk] at HK
  have HK := Lib.hid HK
  have HR := Lib.hid hR
  have hs1 := (hst.alloc 51 #[.int .i64 0, .int .u32 0, .int .u32 0, .int .u64 0, .int .u32 0, .int .u32 0, .int .u32 0, .slice none 0 0, .string ⟨#[]⟩, .slice none 0 0, .slice none 0 0, .int .u16 0, .int .u32 0, .int .u8 0, .slice none 0 0, .slice none 0 0]).swap1
  obtain ⟨q, hq⟩ : ∃ q, q = w.heap.size := ⟨_, rfl⟩
  rw [← hq] at hs1
  have HL := Lib.hid hl
  clear hT hk hR hst hl
  obtain ⟨fs, hd⟩ := st51D
  go_enter Try.func30, Try.ntmps30
  go_upto_region 1 with fail
  rw [← hq]
  clear hq
  generalize World.alloc w _ = W at hs1 HK ⊢
  have HS := Lib.hid hs1
  clear hs1
  obtain ⟨hcA, hfA, hlA⟩ := Blk.all (HS.out.at 1 rfl)
  go_wp2_with fail
  go_at_call 61
  refine HK.out.mono ?_
  clear HK
  rintro e w0 ⟨rfl, hw⟩
  subst hw
  have hs9 : St J0 (b :: bk q 51 #[.int .i64 0, .int .u32 0, .int .u32 0, .int .u64 0, .int .u32 0, .int .u32 0, .int .u32 0, .slice none 0 0, .string ⟨#[]⟩, .slice none 0 0, .slice none 0 0, .int .u16 0, .int .u32 0, .int .u8 0, .slice none 0 0, .slice none 0 0] :: M) ((W).setCell ⟨q, 0, none⟩ (.int .i64 0)) := (HS.out.swap1.set 0 (.int .i64 0)).swap1
  have HS := Lib.hid hs9
  clear hs9
  obtain ⟨hcB, hfB, hlB⟩ := Blk.all (HS.out.at 1 rfl)
  have HC := Lib.hid (rd_u32 (I := J0) p9 r b HS.out HR.out)
  go_wp2_with fail
  go_at_call 62
  refine HC.out.mono ?_
  clear HC HS HR hcA hfA hlA
  try clear hcB hfB hlB
  rintro e w1 ⟨_, _, _, rfl, _, hs, rfl, rfl, b, hR, rfl⟩
  obtain ⟨x1, hx⟩ : ∃ z, z = ((numL (cutS 4 r).1 : Nat) : Int) := ⟨_, rfl⟩
  obtain ⟨r1, hr⟩ : ∃ z, z = (cutS 4 r).2 := ⟨_, rfl⟩
  have hrng := nm_rng 4 r 4 (by decide)
  rw [← hx] at hrng ⊢
  rw [← hr] at hR
  obtain ⟨x1a, x1b⟩ := hrng
  have HL := Lib.hid (show r1.1.length ≤ 2000 from (by rw [hr]; exact Nat.le_trans (cutS_left 4 r) HL.out))
  replace x1b : x1 ≤ 4294967295 := (by have h9 : ((256 ^ 4 : Nat) : Int) = 4294967296 := (by decide); omega)
  have HXx1 := Lib.hid (And.intro hx hr)
  have HS := Lib.hid hs
  have HR := Lib.hid hR
  clear hx hr hs hR
  obtain ⟨hcA, hfA, hlA⟩ := Blk.all (HS.out.at 1 rfl)
  have hs9 : St J0 (b :: bk q 51 #[.int .i64 0, .int .u32 x1, .int .u32 0, .int .u64 0, .int .u32 0, .int .u32 0, .int .u32 0, .slice none 0 0, .string ⟨#[]⟩, .slice none 0 0, .slice none 0 0, .int .u16 0, .int .u32 0, .int .u8 0, .slice none 0 0, .slice none 0 0] :: M) ((w1).setCell ⟨q, 1, none⟩ (.int .u32 x1)) := (HS.out.swap1.set 1 (.int .u32 x1)).swap1
  have HS := Lib.hid hs9
  clear hs9
  obtain ⟨hcB, hfB, hlB⟩ := Blk.all (HS.out.at 1 rfl)
  go_upto_region 17 with fail
  generalize World.setCell w1 _ _ = W2 at HS hcB hfB hlB ⊢
  clear hcA hfA hlA
  go_loopw [] (fun wr => wr = W2) (fun _ => 0)
  case atStart => rfl
  case round =>
    have hwr := hrel
    subst hwr
    have HF := Lib.hid (show ∀ p, T p → False from fun p hp => by
      obtain ⟨hg, hok, hk, hr⟩ := HT.out p hp
      have := hg.1
      unfold KindOk at this
      omega)
    have HLf := Lib.hid (rd_left (I := J0) p9 r1 b HS.out HR.out)
    have HBd := Lib.hid (rd_bad (I := J0) p9 r1 b HS.out HR.out)
    obtain ⟨ln, hln⟩ : ∃ n, n = r1.1.length := ⟨_, rfl⟩
    obtain ⟨bd, hbd⟩ : ∃ x, x = r1.2 := ⟨_, rfl⟩
    rw [← hln] at HLf
    rw [← hbd] at HBd
    have HLN := Lib.hid (And.intro hln hbd)
    clear hln hbd
    rcases Nat.eq_zero_or_pos ln with h0 | h0
    · subst h0
      go_upto_region 41 with (go_at_call 25; refine HLf.out.mono ?_; rintro e w3 ⟨rfl, hw⟩; subst hw)
      have hb : Blk wr q 51 #[.int .i64 0, .int .u32 x1, .int .u32 0, .int .u64 0, .int .u32 0, .int .u32 0, .int .u32 0, .slice none 0 0, .string ⟨#[]⟩, .slice none 0 0, .slice none 0 0, .int .u16 0, .int .u32 0, .int .u8 0, .slice none 0 0, .slice none 0 0] := HS.out.at 1 rfl
      have hone : (#[.int .i64 0, .int .u32 x1, .int .u32 0, .int .u64 0, .int .u32 0, .int .u32 0, .int .u32 0, .slice none 0 0, .string ⟨#[]⟩, .slice none 0 0, .slice none 0 0, .int .u16 0, .int .u32 0, .int .u8 0, .slice none 0 0, .slice none 0 0] : Array Value).all (·.oneCell') = true := by kernel_rfl
      have HS6 := Lib.hid (HS.out.setR1 #[.int .i64 0, .int .u32 x1, .int .u32 0, .int .u64 0, .int .u32 0, .int .u32 0, .int .u32 0, .slice none 0 0, .string ⟨#[]⟩, .slice none 0 0, .slice none 0 0, .int .u16 0, .int .u32 0, .int .u8 0, .slice none 0 0, .slice none 0 0])
      go_wp2_with (first | refine wpList_load_row rfl 51 (.tmp 6) rfl q rfl 51 _ (0, 0) _ hb hd rfl st51I ?_ | refine wpList_store_row rfl 51 (.tmp 6) (.tmp _) rfl q #[.int .i64 0, .int .u32 x1, .int .u32 0, .int .u64 0, .int .u32 0, .int .u32 0, .int .u32 0, .slice none 0 0, .string ⟨#[]⟩, .slice none 0 0, .slice none 0 0, .int .u16 0, .int .u32 0, .int .u8 0, .slice none 0 0, .slice none 0 0] rfl rfl 51 _ hb st51I rfl hone ?_)
      refine bodyPost_ret (results_cell_row (p := 6) Try.results30 _ _ q 51 _ (0, 0) _ rfl (HS6.out.at 1 rfl) hd rfl st51I) rfl ?_
      exact ⟨J0, ⟨0, x1, 0, 0, 0, 0, 0, [], ⟨#[]⟩, [], [], 0, 0, 0, [], []⟩, aVs0, rfl, .refl J0, HS6.out.drop.drop, in_zero J0 0 x1 0, raw_zero 0 x1 0 ⟨x1a, x1b⟩ (by decide), .inl rfl, fun p hp => (HF.out p hp).elim⟩
    · have h0i : (0 : Int) < (ln : Int) := by omega
      cases bd
      · skip
        go_upto_region 19 with (first | (go_at_call 25; refine HLf.out.mono ?_; rintro e w3 ⟨rfl, hw⟩; subst hw) | (go_at_call 29; refine HBd.out.mono ?_; rintro e w3 ⟨rfl, hw⟩; subst hw))
        have hb : Blk wr q 51 #[.int .i64 0, .int .u32 x1, .int .u32 0, .int .u64 0, .int .u32 0, .int .u32 0, .int .u32 0, .slice none 0 0, .string ⟨#[]⟩, .slice none 0 0, .slice none 0 0, .int .u16 0, .int .u32 0, .int .u8 0, .slice none 0 0, .slice none 0 0] := HS.out.at 1 rfl
        have hone : (#[.int .i64 0, .int .u32 0, .int .u32 0, .int .u64 0, .int .u32 0, .int .u32 0, .int .u32 0, .slice none 0 0, .string ⟨#[]⟩, .slice none 0 0, .slice none 0 0, .int .u16 0, .int .u32 0, .int .u8 0, .slice none 0 0, .slice none 0 0] : Array Value).all (·.oneCell') = true := by kernel_rfl
        have HS6 := Lib.hid (HS.out.setR1 #[.int .i64 0, .int .u32 0, .int .u32 0, .int .u64 0, .int .u32 0, .int .u32 0, .int .u32 0, .slice none 0 0, .string ⟨#[]⟩, .slice none 0 0, .slice none 0 0, .int .u16 0, .int .u32 0, .int .u8 0, .slice none 0 0, .slice none 0 0])
        go_wp2_with (first | refine wpList_load_row rfl 51 (.tmp 6) rfl q rfl 51 _ (0, 0) _ hb hd rfl st51I ?_ | refine wpList_store_row rfl 51 (.tmp 6) (.tmp _) rfl q #[.int .i64 0, .int .u32 0, .int .u32 0, .int .u64 0, .int .u32 0, .int .u32 0, .int .u32 0, .slice none 0 0, .string ⟨#[]⟩, .slice none 0 0, .slice none 0 0, .int .u16 0, .int .u32 0, .int .u8 0, .slice none 0 0, .slice none 0 0] rfl rfl 51 _ hb st51I rfl hone ?_)
        refine bodyPost_ret (results_cell_row (p := 6) Try.results30 _ _ q 51 _ (0, 0) _ rfl (HS6.out.at 1 rfl) hd rfl st51I) rfl ?_
        refine ⟨J0, ⟨0, 0, 0, 0, 0, 0, 0, [], ⟨#[]⟩, [], [], 0, 0, 0, [], []⟩, aVs0, rfl, .refl J0, HS6.out.drop.drop, in_zero J0 0 0 0, raw_zero 0 0 0 (by decide) (by decide), .inl rfl, fun p hp => ?_⟩
        exact (HF.out p hp).elim
      · skip
        go_upto_region 41 with (first | (go_at_call 25; refine HLf.out.mono ?_; rintro e w3 ⟨rfl, hw⟩; subst hw) | (go_at_call 29; refine HBd.out.mono ?_; rintro e w3 ⟨rfl, hw⟩; subst hw))
        have hb : Blk wr q 51 #[.int .i64 0, .int .u32 x1, .int .u32 0, .int .u64 0, .int .u32 0, .int .u32 0, .int .u32 0, .slice none 0 0, .string ⟨#[]⟩, .slice none 0 0, .slice none 0 0, .int .u16 0, .int .u32 0, .int .u8 0, .slice none 0 0, .slice none 0 0] := HS.out.at 1 rfl
        have hone : (#[.int .i64 0, .int .u32 x1, .int .u32 0, .int .u64 0, .int .u32 0, .int .u32 0, .int .u32 0, .slice none 0 0, .string ⟨#[]⟩, .slice none 0 0, .slice none 0 0, .int .u16 0, .int .u32 0, .int .u8 0, .slice none 0 0, .slice none 0 0] : Array Value).all (·.oneCell') = true := by kernel_rfl
        have HS6 := Lib.hid (HS.out.setR1 #[.int .i64 0, .int .u32 x1, .int .u32 0, .int .u64 0, .int .u32 0, .int .u32 0, .int .u32 0, .slice none 0 0, .string ⟨#[]⟩, .slice none 0 0, .slice none 0 0, .int .u16 0, .int .u32 0, .int .u8 0, .slice none 0 0, .slice none 0 0])
        go_wp2_with (first | refine wpList_load_row rfl 51 (.tmp 6) rfl q rfl 51 _ (0, 0) _ hb hd rfl st51I ?_ | refine wpList_store_row rfl 51 (.tmp 6) (.tmp _) rfl q #[.int .i64 0, .int .u32 x1, .int .u32 0, .int .u64 0, .int .u32 0, .int .u32 0, .int .u32 0, .slice none 0 0, .string ⟨#[]⟩, .slice none 0 0, .slice none 0 0, .int .u16 0, .int .u32 0, .int .u8 0, .slice none 0 0, .slice none 0 0] rfl rfl 51 _ hb st51I rfl hone ?_)
        refine bodyPost_ret (results_cell_row (p := 6) Try.results30 _ _ q 51 _ (0, 0) _ rfl (HS6.out.at 1 rfl) hd rfl st51I) rfl ?_
        exact ⟨J0, ⟨0, x1, 0, 0, 0, 0, 0, [], ⟨#[]⟩, [], [], 0, 0, 0, [], []⟩, aVs0, rfl, .refl J0, HS6.out.drop.drop, in_zero J0 0 x1 0, raw_zero 0 x1 0 ⟨x1a, x1b⟩ (by decide), .inl rfl, fun p hp => (HF.out p hp).elim⟩
end Go.Proofs.Ytddopbbmgpnjjaa
namespace Go.Proofs.Ytddopbbmgpnjjaa
open Go.RowKit
set_option linter.unusedSimpArgs false

set_option maxRecDepth 100000 in
set_option maxHeartbeats 20000000 in
theorem read3 (J0 : Img) (M : List Res) (w : World) (f s : Int) (p9 : Nat) (r : RS) (b : Res) (T : Pk → Prop) (hT : ∀ p, T p → Good p ∧ PkOk p ∧ p.kind = 3 ∧ r = (evenL (bodyL p), false)) (hk : kindP f s = 3) (hf : 0 ≤ f ∧ f ≤ 255) (hl : r.1.length ≤ 2000) (hst : St J0 (b :: M) w) (hR : Rdr J0 p9 r b) :
    Calls Try.prog 30 #[.int .u8 f, .int .u8 s, .pointer (some ⟨p9, 0, none⟩)] w (RdOk J0 M T) := by
  have HT := Lib.hid hT
  have HK := kindC f s (w.alloc (.cells #[.int .i64 0, .int .u32 0, .int .u32 0, .int .u64 0, .int .u32 0, .int .u32 0, .int .u32 0, .slice none 0 0, .string ⟨#[]⟩, .slice none 0 0, .slice none 0 0, .int .u16 0, .int .u32 0, .int .u8 0, .slice none 0 0, .slice none 0 0] 51)) hf
  rw [hk] at HK
  have HK := Lib.hid HK
  have HR := Lib.hid hR
  have hs1 := (hst.alloc 51 #[.int .i64 0, .int .u32 0, .int .u32 0, .int .u64 0, .int .u32 0, .int .u32 0, .int .u32 0, .slice none 0 0, .string ⟨#[]⟩, .slice none 0 0, .slice none 0 0, .int .u16 0, .int .u32 0, .int .u8 0, .slice none 0 0, .slice none 0 0]).swap1
  obtain ⟨q, hq⟩ : ∃ q, q = w.heap.size := ⟨_, rfl⟩
  rw [← hq] at hs1
  have HL := Lib.hid hl
  clear hT hk hR hst hl
  obtain ⟨fs, hd⟩ := st51D
  go_enter Try.func30, Try.ntmps30
  go_upto_region 1 with fail
  rw [← hq]
  clear hq
  generalize World.alloc w _ = W at hs1 HK ⊢
  have HS := Lib.hid hs1
  clear hs1
  obtain ⟨hcA, hfA, hlA⟩ := Blk.all (HS.out.at 1 rfl)
  go_wp2_with fail
  go_at_call 61
  refine HK.out.mono ?_
  clear HK
  rintro e w0 ⟨rfl, hw⟩
  subst hw
  have hs9 : St J0 (b :: bk q 51 #[.int .i64 3, .int .u32 0, .int .u32 0, .int .u64 0, .int .u32 0, .int .u32 0, .int .u32 0, .slice none 0 0, .string ⟨#[]⟩, .slice none 0 0, .slice none 0 0, .int .u16 0, .int .u32 0, .int .u8 0, .slice none 0 0, .slice none 0 0] :: M) ((W).setCell ⟨q, 0, none⟩ (.int .i64 3)) := (HS.out.swap1.set 0 (.int .i64 3)).swap1
  have HS := Lib.hid hs9
  clear hs9
  obtain ⟨hcB, hfB, hlB⟩ := Blk.all (HS.out.at 1 rfl)
  have HC := Lib.hid (rd_u32 (I := J0) p9 r b HS.out HR.out)
  go_wp2_with fail
  go_at_call 62
  refine HC.out.mono ?_
  clear HC HS HR hcA hfA hlA
  try clear hcB hfB hlB
  rintro e w1 ⟨_, _, _, rfl, _, hs, rfl, rfl, b, hR, rfl⟩
  obtain ⟨x1, hx⟩ : ∃ z, z = ((numL (cutS 4 r).1 : Nat) : Int) := ⟨_, rfl⟩
  obtain ⟨r1, hr⟩ : ∃ z, z = (cutS 4 r).2 := ⟨_, rfl⟩
  have hrng := nm_rng 4 r 4 (by decide)
  rw [← hx] at hrng ⊢
  rw [← hr] at hR
  obtain ⟨x1a, x1b⟩ := hrng
  have HL := Lib.hid (show r1.1.length ≤ 2000 from (by rw [hr]; exact Nat.le_trans (cutS_left 4 r) HL.out))
  replace x1b : x1 ≤ 4294967295 := (by have h9 : ((256 ^ 4 : Nat) : Int) = 4294967296 := (by decide); omega)
  have HXx1 := Lib.hid (And.intro hx hr)
  have HS := Lib.hid hs
  have HR := Lib.hid hR
  clear hx hr hs hR
  obtain ⟨hcA, hfA, hlA⟩ := Blk.all (HS.out.at 1 rfl)
  have hs9 : St J0 (b :: bk q 51 #[.int .i64 3, .int .u32 x1, .int .u32 0, .int .u64 0, .int .u32 0, .int .u32 0, .int .u32 0, .slice none 0 0, .string ⟨#[]⟩, .slice none 0 0, .slice none 0 0, .int .u16 0, .int .u32 0, .int .u8 0, .slice none 0 0, .slice none 0 0] :: M) ((w1).setCell ⟨q, 1, none⟩ (.int .u32 x1)) := (HS.out.swap1.set 1 (.int .u32 x1)).swap1
  have HS := Lib.hid hs9
  clear hs9
  obtain ⟨hcB, hfB, hlB⟩ := Blk.all (HS.out.at 1 rfl)
  have HC := Lib.hid (rd_u8 (I := J0) p9 r1 b HS.out HR.out)
  go_wp2_with fail
  go_at_call 26
  refine HC.out.mono ?_
  clear HC HS HR hcA hfA hlA
  try clear hcB hfB hlB
  rintro e w2 ⟨_, _, _, rfl, _, hs, rfl, rfl, b, hR, rfl⟩
  obtain ⟨y1, hx⟩ : ∃ z, z = ((numL (cutS 1 r1).1 : Nat) : Int) := ⟨_, rfl⟩
  obtain ⟨r2, hr⟩ : ∃ z, z = (cutS 1 r1).2 := ⟨_, rfl⟩
  have hrng := nm_rng 1 r1 1 (by decide)
  rw [← hx] at hrng ⊢
  rw [← hr] at hR
  obtain ⟨y1a, y1b⟩ := hrng
  have HL := Lib.hid (show r2.1.length ≤ 2000 from (by rw [hr]; exact Nat.le_trans (cutS_left 1 r1) HL.out))
  replace y1b : y1 ≤ 255 := (by have h9 : ((256 ^ 1 : Nat) : Int) = 256 := (by decide); omega)
  have HXy1 := Lib.hid (And.intro hx hr)
  have HS := Lib.hid hs
  have HR := Lib.hid hR
  clear hx hr hs hR
  obtain ⟨hcA, hfA, hlA⟩ := Blk.all (HS.out.at 1 rfl)
  have HC := Lib.hid (rd_u8 (I := J0) p9 r2 b HS.out HR.out)
  go_wp2_with fail
  go_at_call 26
  refine HC.out.mono ?_
  clear HC HS HR hcA hfA hlA
  try clear hcB hfB hlB
  rintro e w3 ⟨_, _, _, rfl, _, hs, rfl, rfl, b, hR, rfl⟩
  obtain ⟨y2, hx⟩ : ∃ z, z = ((numL (cutS 1 r2).1 : Nat) : Int) := ⟨_, rfl⟩
  obtain ⟨r3, hr⟩ : ∃ z, z = (cutS 1 r2).2 := ⟨_, rfl⟩
  have hrng := nm_rng 1 r2 1 (by decide)
  rw [← hx] at hrng ⊢
  rw [← hr] at hR
  obtain ⟨y2a, y2b⟩ := hrng
  have HL := Lib.hid (show r3.1.length ≤ 2000 from (by rw [hr]; exact Nat.le_trans (cutS_left 1 r2) HL.out))
  replace y2b : y2 ≤ 255 := (by have h9 : ((256 ^ 1 : Nat) : Int) = 256 := (by decide); omega)
  have HXy2 := Lib.hid (And.intro hx hr)
  have HS := Lib.hid hs
  have HR := Lib.hid hR
  clear hx hr hs hR
  obtain ⟨hcA, hfA, hlA⟩ := Blk.all (HS.out.at 1 rfl)
  have HC := Lib.hid (rd_take (I := J0) p9 y2 r3 b HS.out HR.out (by omega) (by have := HL.out; omega))
  go_wp2_with fail
  go_at_call 27
  refine HC.out.mono ?_
  clear HC HR HS hcA hfA hlA
  rintro e w4 ⟨_, _, _, rfl, _, hs, rfl, A9, c9, b, rfl, hc9, hR, rfl⟩
  obtain ⟨J2, hle2, hs6, hB⟩ := hs.freezeRow
  have HLE := Lib.hid hle2
  have hln := cutS_len y2 r3 255 y2b
  obtain ⟨bs, hbs⟩ : ∃ z, z = (cutS y2 r3).1 := ⟨_, rfl⟩
  rw [← hbs] at hB hln ⊢
  have hcv := Byts.conv (bs := bs) hB hs6 Try.underlying24 Try.underlying5 Try.underlying9 c9
  have HBS := Lib.hid hbs
  have HLN := Lib.hid hln
  clear hbs hln hle2 hs hR
  have HS := Lib.hid hs6
  clear hs6
  obtain ⟨hcA, hfA, hlA⟩ := Blk.all (HS.out.at 1 rfl)
  go_upto_region 13 with fail
  have hs1 : St J2 (b :: bk q 51 #[.int .i64 3, .int .u32 x1, .int .u32 0, .int .u64 0, .int .u32 0, .int .u32 0, .int .u32 0, .slice none 0 0, .string ⟨bs.toArray⟩, .slice none 0 0, .slice none 0 0, .int .u16 0, .int .u32 0, .int .u8 0, .slice none 0 0, .slice none 0 0] :: M) _ := (HS.out.swap1.set 8 (.string ⟨bs.toArray⟩)).swap1
  clear HS hcA hfA hlA
  have HS := Lib.hid hs1
  clear hs1 hcv hB
  generalize World.setCell w4 _ _ = W5 at HS ⊢
  have hb : Blk W5 q 51 #[.int .i64 3, .int .u32 x1, .int .u32 0, .int .u64 0, .int .u32 0, .int .u32 0, .int .u32 0, .slice none 0 0, .string ⟨bs.toArray⟩, .slice none 0 0, .slice none 0 0, .int .u16 0, .int .u32 0, .int .u8 0, .slice none 0 0, .slice none 0 0] := HS.out.at 1 rfl
  have hone : (#[.int .i64 3, .int .u32 x1, .int .u32 0, .int .u64 0, .int .u32 0, .int .u32 0, .int .u32 0, .slice none 0 0, .string ⟨bs.toArray⟩, .slice none 0 0, .slice none 0 0, .int .u16 0, .int .u32 0, .int .u8 0, .slice none 0 0, .slice none 0 0] : Array Value).all (·.oneCell') = true := by kernel_rfl
  have HS6 := Lib.hid (HS.out.setR1 #[.int .i64 3, .int .u32 x1, .int .u32 0, .int .u64 0, .int .u32 0, .int .u32 0, .int .u32 0, .slice none 0 0, .string ⟨bs.toArray⟩, .slice none 0 0, .slice none 0 0, .int .u16 0, .int .u32 0, .int .u8 0, .slice none 0 0, .slice none 0 0])
  go_wp2_with (first | refine wpList_load_row rfl 51 (.tmp 6) rfl q rfl 51 _ (0, 0) _ hb hd rfl st51I ?_ | refine wpList_store_row rfl 51 (.tmp 6) (.tmp _) rfl q #[.int .i64 3, .int .u32 x1, .int .u32 0, .int .u64 0, .int .u32 0, .int .u32 0, .int .u32 0, .slice none 0 0, .string ⟨bs.toArray⟩, .slice none 0 0, .slice none 0 0, .int .u16 0, .int .u32 0, .int .u8 0, .slice none 0 0, .slice none 0 0] rfl rfl 51 _ hb st51I rfl hone ?_)
  refine bodyPost_ret (results_cell_row (p := 6) Try.results30 _ _ q 51 _ (0, 0) _ rfl (HS6.out.at 1 rfl) hd rfl st51I) rfl ?_
  refine ⟨J2, ⟨3, x1, 0, 0, 0, 0, 0, [], ⟨bs.toArray⟩, [], [], 0, 0, 0, [], []⟩, aVs0, rfl, HLE.out, HS6.out.drop.drop, ⟨SlC.nil J2 _, SlC.nil J2 _, SlC.nil J2 _, SlC.nil J2 _, SlC.nil J2 _⟩, raw_mk ⟨x1a, x1b⟩ (by simp) (by simp) (by simp) (by simp) (by simp) (by simp) (by simp) (by simp) (by simp) (by simp) (by simp) (by simp) (Nat.zero_le _) (Nat.zero_le _) (Nat.zero_le _) (Nat.zero_le _) (Nat.zero_le _) (show bs.toArray.size ≤ 70000 from by have := HLN.out; rw [List.size_toArray]; omega), .inl rfl, fun p hp => ?_⟩
  obtain ⟨hg, hok, hk, hr⟩ := HT.out p hp
  obtain ⟨h1, t, h2⟩ := shape3 hg hk
  have hsz : 1 ≤ p.name.size ∧ p.name.size ≤ 64 := by
    have := hg.1
    unfold KindOk at this
    omega
  rw [h2] at hr
  obtain ⟨a1, hr⟩ := rd4_of HXx1.out hok.sender hr
  obtain ⟨a2, hr⟩ := rd1_of HXy1.out (by decide) hr
  obtain ⟨a3, hr6⟩ := rd1_of HXy2.out (by omega) hr
  have h4 := HBS.out
  rw [hr6, cut_app p.name.data.toList t y2 (by rw [a3]; rfl)] at h4
  rw [h1, a1, h4]
end Go.Proofs.Ytddopbbmgpnjjaa
namespace Go.Proofs.Ytddopbbmgpnjjaa
open Go.RowKit
set_option linter.unusedSimpArgs false

set_option maxRecDepth 100000 in
set_option maxHeartbeats 20000000 in
theorem read4 (J0 : Img) (M : List Res) (w : World) (f s : Int) (p9 : Nat) (r : RS) (b : Res) (T : Pk → Prop) (hT : ∀ p, T p → Good p ∧ PkOk p ∧ p.kind = 4 ∧ r = (evenL (bodyL p), false)) (hk : kindP f s = 4) (hf : 0 ≤ f ∧ f ≤ 255) (hl : r.1.length ≤ 2000) (hst : St J0 (b :: M) w) (hR : Rdr J0 p9 r b) :
    Calls Try.prog 30 #[.int .u8 f, .int .u8 s, .pointer (some ⟨p9, 0, none⟩)] w (RdOk J0 M T) := by
  have HT := Lib.hid hT
  have HK := kindC f s (w.alloc (.cells #[.int .i64 0, .int .u32 0, .int .u32 0, .int .u64 0, .int .u32 0, .int .u32 0, .int .u32 0, .slice none 0 0, .string ⟨#[]⟩, .slice none 0 0, .slice none 0 0, .int .u16 0, .int .u32 0, .int .u8 0, .slice none 0 0, .slice none 0 0] 51)) hf
  rw [hk] at HK
  have HK := Lib.hid HK
  have HR := Lib.hid hR
  have hs1 := (hst.alloc 51 #[.int .i64 0, .int .u32 0, .int .u32 0, .int .u64 0, .int .u32 0, .int .u32 0, .int .u32 0, .slice none 0 0, .string ⟨#[]⟩, .slice none 0 0, .slice none 0 0, .int .u16 0, .int .u32 0, .int .u8 0, .slice none 0 0, .slice none 0 0]).swap1
  obtain ⟨q, hq⟩ : ∃ q, q = w.heap.size := ⟨_, rfl⟩
  rw [← hq] at hs1
  have HL := Lib.hid hl
  clear hT hk hR hst hl
  obtain ⟨fs, hd⟩ := st51D
  go_enter Try.func30, Try.ntmps30
  go_upto_region 1 with fail
  rw [← hq]
  clear hq
  generalize World.alloc w _ = W at hs1 HK ⊢
  have HS := Lib.hid hs1
  clear hs1
  obtain ⟨hcA, hfA, hlA⟩ := Blk.all (HS.out.at 1 rfl)
  go_wp2_with fail
  go_at_call 61
  refine HK.out.mono ?_
  clear HK
  rintro e w0 ⟨rfl, hw⟩
  subst hw
  have hs9 : St J0 (b :: bk q 51 #[.int .i64 4, .int .u32 0, .int .u32 0, .int .u64 0, .int .u32 0, .int .u32 0, .int .u32 0, .slice none 0 0, .string ⟨#[]⟩, .slice none 0 0, .slice none 0 0, .int .u16 0, .int .u32 0, .int .u8 0, .slice none 0 0, .slice none 0 0] :: M) ((W).setCell ⟨q, 0, none⟩ (.int .i64 4)) := (HS.out.swap1.set 0 (.int .i64 4)).swap1
  have HS := Lib.hid hs9
  clear hs9
  obtain ⟨hcB, hfB, hlB⟩ := Blk.all (HS.out.at 1 rfl)
  have HF := Lib.hid (show ∀ p, T p → (⟨4, 0, 0, 0, 0, 0, 0, [], ⟨#[]⟩, p.srcs, [], 0, 0, 0, [], []⟩ : Pk) = p ∧ r = (p.srcs.flatMap u32B, false) from fun p hp => by
    obtain ⟨hg, hok, hk, hr⟩ := HT.out p hp
    obtain ⟨h1, h2⟩ := shape4 hg hk
    rw [h2] at hr
    rw [← h1]
    exact ⟨rfl, hr⟩)
  go_upto_region 17 with fail
  generalize World.setCell _ _ _ = W2 at HS hcB hfB hlB ⊢
  have hsr := (HS.out.nil (e := 43) (size := 1)).up12
  clear HS
  have HS := Lib.hid hsr
  clear hsr
  try clear hcA hfA hlA
  clear hcB hfB hlB
  go_loopw [] (fun wr => ∃ (L : List Int) (A : Option Addr) (c : Nat) (rL : RS) (b9 : Res), Hid (St J0 (b9 :: bk q 51 #[.int .i64 4, .int .u32 0, .int .u32 0, .int .u64 0, .int .u32 0, .int .u32 0, .int .u32 0, .slice none 0 0, .string ⟨#[]⟩, .slice A L.length c, .slice none 0 0, .int .u16 0, .int .u32 0, .int .u8 0, .slice none 0 0, .slice none 0 0] :: row 43 1 (.slice A L.length c) L.length (flat u32C L) :: M) wr ∧ Rdr J0 p9 rL b9 ∧ rL.1.length ≤ 2000 ∧ L.length + 1 * mS rL ≤ 2001 ∧ (∀ x ∈ L, 0 ≤ x ∧ x ≤ 4294967295) ∧ ∀ p, T p → ∃ t, p.srcs = L ++ t ∧ rL = (t.flatMap u32B, false))) (fun wr => rdM wr p9)
  case atStart => exact ⟨[], none, 0, r, b, Lib.hid ⟨HS.out, HR.out, HL.out, by have := mS_lt HL.out; simp only [List.length_nil]; omega, by simp, fun p hp => ⟨p.srcs, rfl, (HF.out p hp).2⟩⟩⟩
  case round =>
    obtain ⟨L, A, c, rL, b, hh⟩ := hrel
    obtain ⟨hs, hR, hl9, hlen, hraw, ht⟩ := hh.out
    clear hh HS HR HL
    have HS := Lib.hid hs
    have HR := Lib.hid hR
    have HL := Lib.hid hl9
    have HIN := Lib.hid (And.intro hlen (And.intro hraw ht))
    clear hs hR hl9 hlen hraw ht
    obtain ⟨hcA, hfA, hlA⟩ := Blk.all (HS.out.at 1 rfl)
    have HLf := Lib.hid (rd_left (I := J0) p9 rL b HS.out HR.out)
    have HBd := Lib.hid (rd_bad (I := J0) p9 rL b HS.out HR.out)
    obtain ⟨ln, hln⟩ : ∃ n, n = rL.1.length := ⟨_, rfl⟩
    obtain ⟨bd, hbd⟩ : ∃ x, x = rL.2 := ⟨_, rfl⟩
    rw [← hln] at HLf
    rw [← hbd] at HBd
    have HLN := Lib.hid (And.intro hln hbd)
    clear hln hbd
    rcases Nat.eq_zero_or_pos ln with h0 | h0
    · subst h0
      go_upto_region 41 with (go_at_call 25; refine HLf.out.mono ?_; rintro e w3 ⟨rfl, hw⟩; subst hw)
      have HE := Lib.hid (show ∀ p, T p → p.srcs = L from fun p hp => by
        obtain ⟨t, h1, h2⟩ := HIN.out.2.2 p hp
        obtain ⟨h3, h4⟩ := HLN.out
        rw [h2] at h3
        rw [h1, fm_zero (fun x => by rw [u32B_len]; decide) h3.symm, List.append_nil])
      have hb : Blk wr q 51 #[.int .i64 4, .int .u32 0, .int .u32 0, .int .u64 0, .int .u32 0, .int .u32 0, .int .u32 0, .slice none 0 0, .string ⟨#[]⟩, .slice A L.length c, .slice none 0 0, .int .u16 0, .int .u32 0, .int .u8 0, .slice none 0 0, .slice none 0 0] := HS.out.at 1 rfl
      have hone : (#[.int .i64 4, .int .u32 0, .int .u32 0, .int .u64 0, .int .u32 0, .int .u32 0, .int .u32 0, .slice none 0 0, .string ⟨#[]⟩, .slice A L.length c, .slice none 0 0, .int .u16 0, .int .u32 0, .int .u8 0, .slice none 0 0, .slice none 0 0] : Array Value).all (·.oneCell') = true := by kernel_rfl
      have HS6 := Lib.hid (HS.out.setR1 #[.int .i64 4, .int .u32 0, .int .u32 0, .int .u64 0, .int .u32 0, .int .u32 0, .int .u32 0, .slice none 0 0, .string ⟨#[]⟩, .slice A L.length c, .slice none 0 0, .int .u16 0, .int .u32 0, .int .u8 0, .slice none 0 0, .slice none 0 0])
      go_wp2_with (first | refine wpList_load_row rfl 51 (.tmp 6) rfl q rfl 51 _ (0, 0) _ hb hd rfl st51I ?_ | refine wpList_store_row rfl 51 (.tmp 6) (.tmp _) rfl q #[.int .i64 4, .int .u32 0, .int .u32 0, .int .u64 0, .int .u32 0, .int .u32 0, .int .u32 0, .slice none 0 0, .string ⟨#[]⟩, .slice A L.length c, .slice none 0 0, .int .u16 0, .int .u32 0, .int .u8 0, .slice none 0 0, .slice none 0 0] rfl rfl 51 _ hb st51I rfl hone ?_)
      refine bodyPost_ret (results_cell_row (p := 6) Try.results30 _ _ q 51 _ (0, 0) _ rfl (HS6.out.at 1 rfl) hd rfl st51I) rfl ?_
      have hcap := (own_cap (show World.ownsRow _ 0 43 1 (.slice A L.length c) L.length _ from HS6.out.at 2 rfl)).2
      obtain ⟨J2, hle2, hs7, hcl⟩ := HS6.out.drop.drop.freezeRow
      refine ⟨J2, ⟨4, 0, 0, 0, 0, 0, 0, [], ⟨#[]⟩, L, [], 0, 0, 0, [], []⟩, ⟨nilV, .slice A L.length c, nilV, nilV, nilV⟩, rfl, hle2, hs7, ⟨SlC.nil J2 _, ⟨A, c, rfl, hcl, hcap⟩, SlC.nil J2 _, SlC.nil J2 _, SlC.nil J2 _⟩, raw_mk (by simp) (by simp) (by simp) (by simp) (by simp) (by simp) (by simp) HIN.out.2.1 (by simp) (by simp) (by simp) (by simp) (by simp) (Nat.zero_le _) (by have := HIN.out.1; simp only []; omega) (Nat.zero_le _) (Nat.zero_le _) (Nat.zero_le _) (Nat.zero_le _), .inl rfl, fun p hp => ?_⟩
      have h5 := (HF.out p hp).1
      rw [HE.out p hp] at h5
      exact h5
    · have h0i : (0 : Int) < (ln : Int) := by omega
      cases bd
      · skip
        have HPOS := Lib.hid (show 0 < rL.1.length from HLN.out.1 ▸ h0)
        have HM0 := Lib.hid (rdM_of HR.out HS.out)
        go_upto_region 28 with (first | (go_at_call 25; refine HLf.out.mono ?_; rintro e w3 ⟨rfl, hw⟩; subst hw) | (go_at_call 29; refine HBd.out.mono ?_; rintro e w3 ⟨rfl, hw⟩; subst hw))
        clear hcA hfA hlA
        have HSS := Lib.hid (fun (M9 : List Res) (w' : World) (hm : bk q 51 #[.int .i64 4, .int .u32 0, .int .u32 0, .int .u64 0, .int .u32 0, .int .u32 0, .int .u32 0, .slice none 0 0, .string ⟨#[]⟩, .slice A L.length c, .slice none 0 0, .int .u16 0, .int .u32 0, .int .u8 0, .slice none 0 0, .slice none 0 0] ∈ M9) (hs : St J0 M9 w') => (show w'.cell? ⟨q, 9, none⟩ = some (.slice A L.length c) from (Blk.all (hs.res _ hm)).1 9))
        refine wp_region_last (S := fun w' => w'.cell? ⟨q, 9, none⟩ = some (.slice A L.length c)) (by kernel_rfl) (HSS.out _ _ (by simp) HS.out.drew) (fun hHeld => ?_)
        have hsd := HS.out.drew
        clear HS
        generalize World.drew _ = W3 at hsd hHeld ⊢
        refine wpAnyL_take (i := 0) 1 (oi := _) (v := ?_) rfl (by kernel_rfl) (by kernel_rfl) (by kernel_rfl) (by kernel_rfl) (fun _ _ _ h => h) (Or.inl ⟨by rfl, ?_⟩) (by assumption) ?_
        rotate_left
        · (intro w hSw; (try dsimp only at hSw); go_simp; try with_reducible rfl)
        try simp only [Act.put, List.getElem_toArray, List.getElem_cons_zero, List.getElem_cons_succ, List.setIfInBounds_toArray, List.set_cons_zero, List.set_cons_succ]
        refine wpAnyL_take (i := 1) 5 (oi := _) (v := ?_) rfl (by kernel_rfl) (by kernel_rfl) (by kernel_rfl) (by kernel_rfl) (fun _ _ _ h => h) (Or.inl ⟨by rfl, ?_⟩) (by assumption) ?_
        rotate_left
        · (intro w hSw; (try dsimp only at hSw); go_simp; try with_reducible rfl)
        try simp only [Act.put, List.getElem_toArray, List.getElem_cons_zero, List.getElem_cons_succ, List.setIfInBounds_toArray, List.set_cons_zero, List.set_cons_succ]
        refine wpAnyL_take (i := 2) 3 (oi := _) (v := ?_) rfl (by kernel_rfl) (by kernel_rfl) (by kernel_rfl) (by kernel_rfl) (fun _ _ _ h => h) (Or.inl ⟨by rfl, ?_⟩) (by assumption) ?_
        rotate_left
        · (intro w hSw; (try dsimp only at hSw); go_simp; try with_reducible rfl)
        try simp only [Act.put, List.getElem_toArray, List.getElem_cons_zero, List.getElem_cons_succ, List.setIfInBounds_toArray, List.set_cons_zero, List.set_cons_succ]
        have HC := Lib.hid (rd_u32 (I := J0) p9 rL b hsd HR.out)
        refine wpAnyL_one (i := 3) (o := _) (by kernel_rfl) rfl (fun K hK => ?_)
        go_simp
        try clear hHeld
        refine HC.out.mono ?_
        clear HC HR hsd
        rintro e w1 ⟨_, _, _, rfl, _, hsd, rfl, rfl, b, hR, rfl⟩
        obtain ⟨y1, hx⟩ : ∃ z, z = ((numL (cutS 4 rL).1 : Nat) : Int) := ⟨_, rfl⟩
        obtain ⟨r1, hr⟩ : ∃ z, z = (cutS 4 rL).2 := ⟨_, rfl⟩
        have hrng := nm_rng 4 rL 4 (by decide)
        rw [← hx] at hrng ⊢
        rw [← hr] at hR
        obtain ⟨y1a, y1b⟩ := hrng
        have HL := Lib.hid (show r1.1.length ≤ 2000 from (by rw [hr]; exact Nat.le_trans (cutS_left 4 rL) HL.out))
        replace y1b : y1 ≤ 4294967295 := (by have h9 : ((256 ^ 4 : Nat) : Int) = 4294967296 := (by decide); omega)
        have HXy1 := Lib.hid (And.intro hx hr)
        have HR := Lib.hid hR
        clear hx hr hR
        refine hK.out _ _ (HSS.out _ _ (by simp) hsd) (fun hHeld => ?_)
        clear hK K
        try simp only [Act.put, List.getElem_toArray, List.getElem_cons_zero, List.getElem_cons_succ, List.setIfInBounds_toArray, List.set_cons_zero, List.set_cons_succ]
        refine wpAnyL_one (i := 4) (o := _) (by kernel_rfl) rfl (fun K hK => ?_)
        go_simp
        have hsr := hsd.litSrcV (P := Try.prog) (t := 47) (e := 43) (cs := #[.int .u32 y1]) (n := 1) (size := 1) rfl (by decide) Try.underlying47 (by simp [Value.oneCell'])
        have hsg := (hsd.grow (.cells #[.int .u32 y1] 43)).swap2
        try clear hHeld
        refine hK.out _ _ (HSS.out _ _ (by simp) hsg) (fun hHeld => ?_)
        clear hK K
        try simp only [Act.put, List.getElem_toArray, List.getElem_cons_zero, List.getElem_cons_succ, List.setIfInBounds_toArray, List.set_cons_zero, List.set_cons_succ]
        obtain ⟨i0, hi0, hz0, hz1, hz2⟩ := info_parts info43
        have HBR := Lib.hid (show L.length ≤ 2001 from by have := HIN.out.1; omega)
        refine wpAnyL_one (i := 5) (o := _) (by kernel_rfl) rfl (fun K hK => ?_)
        refine step_append_src _ (by rfl) _ _ 47 47 (by rfl) 0 43 i0 (.int .u32 0) 1 4 Try.underlying47 hi0 hz0 hz1 hz2 rfl _ L.length (flat u32C L) (by rfl) hsg.head _ 1 _ (by rfl) hsr (by have := HBR.out; unfold maxLen; omega) (by have := HBR.out; omega) (Nat.zero_le _) ?_
        intro v' w5 hown' hgrow hat
        have hown2 : w5.ownsRow 0 43 1 v' (L.length + 1) (flat u32C (L ++ [(y1 : Int)])) := by rw [flat_append]; exact hown'
        obtain ⟨A10, c10, rfl⟩ := own_form hown2
        have hs5 := hsg.grown hgrow hown2 (by simpa using hat)
        try clear hHeld
        refine hK.out _ _ (HSS.out _ _ (by simp) hs5) (fun hHeld => ?_)
        clear hK K
        try simp only [Act.put, List.getElem_toArray, List.getElem_cons_zero, List.getElem_cons_succ, List.setIfInBounds_toArray, List.set_cons_zero, List.set_cons_succ]
        refine wpAnyL_take (i := 6) 7 (oi := _) (v := ?_) rfl (by kernel_rfl) (by kernel_rfl) (by kernel_rfl) (by kernel_rfl) (fun _ _ _ h => h) (Or.inl ⟨by rfl, ?_⟩) (by assumption) ?_
        rotate_left
        · (intro w hSw; (try dsimp only at hSw); go_simp; try with_reducible rfl)
        try simp only [Act.put, List.getElem_toArray, List.getElem_cons_zero, List.getElem_cons_succ, List.setIfInBounds_toArray, List.set_cons_zero, List.set_cons_succ]
        have HS6 := Lib.hid (show St J0 (b :: bk q 51 #[.int .i64 4, .int .u32 0, .int .u32 0, .int .u64 0, .int .u32 0, .int .u32 0, .int .u32 0, .slice none 0 0, .string ⟨#[]⟩, .slice A10 (L.length + 1) c10, .slice none 0 0, .int .u16 0, .int .u32 0, .int .u8 0, .slice none 0 0, .slice none 0 0] :: row 43 1 (.slice A10 (L.length + 1) c10) (L.length + 1) (flat u32C (L ++ [(y1 : Int)])) :: M) (w5.setCell ⟨q, 9, none⟩ (.slice A10 (L.length + 1) c10)) from ((hs5.swap1.set 9 (.slice A10 (L.length + 1) c10)).swap1.swap2))
        obtain ⟨hp, fp, lp⟩ := Blk.all (hs5.at 1 rfl)
        refine wpAnyL_last (i := 7) (o := _) (by kernel_rfl) rfl (by kernel_rfl) (by kernel_rfl) (fun K hK => ?_)
        go_simp
        try clear hHeld
        refine hK.out _ _ ?_
        clear hK K
        try simp only [Act.put, List.getElem_toArray, List.getElem_cons_zero, List.getElem_cons_succ, List.setIfInBounds_toArray, List.set_cons_zero, List.set_cons_succ]
        clear hs5 hown' hown2 hgrow hat hsr hsg hsd hp fp lp
        have HMS := Lib.hid (show mS r1 < mS rL from by
          have m0 : mS r1 < mS rL := by rw [HXy1.out.2]; exact mS_cut (by decide) HLN.out.2.symm
          omega)
        go_wp2
        go_roundw
        case rel =>
          refine ⟨L ++ [(y1 : Int)], A10, c10, r1, b, Lib.hid ⟨by rw [List.length_append]; exact HS6.out, HR.out, HL.out, ?_, ?_, ?_⟩⟩
          · have h1 := HIN.out.1
            have h2 := HMS.out
            rw [List.length_append, List.length_singleton]
            omega
          · intro x hx
            rcases List.mem_append.1 hx with hx | hx
            · exact HIN.out.2.1 x hx
            · rw [List.mem_singleton.1 hx]
              exact ⟨y1a, y1b⟩
          · intro p hp
            obtain ⟨t, h1, h2⟩ := HIN.out.2.2 p hp
            obtain ⟨h3, h4⟩ := HLN.out
            have h3 := congrArg List.length (congrArg Prod.fst h2)
            obtain ⟨y, t', ht', hby⟩ := fm_more (by rw [← h3]; exact HPOS.out)
            rw [hby] at h2
            have hyr := (HT.out p hp).2.1.srcs y (by rw [h1, ht']; simp)
            obtain ⟨he, h5⟩ := rd4_of HXy1.out hyr h2
            exact ⟨t', by rw [h1, ht', he]; simp, h5⟩
        case measure =>
          rw [rdM_of HR.out HS6.out, HM0.out]
          exact HMS.out
      · skip
        go_upto_region 41 with (first | (go_at_call 25; refine HLf.out.mono ?_; rintro e w3 ⟨rfl, hw⟩; subst hw) | (go_at_call 29; refine HBd.out.mono ?_; rintro e w3 ⟨rfl, hw⟩; subst hw))
        have HE := Lib.hid (show ∀ p, T p → p.srcs = L from fun p hp => by
          obtain ⟨t, h1, h2⟩ := HIN.out.2.2 p hp
          obtain ⟨h3, h4⟩ := HLN.out
          rw [h2] at h4
          cases h4)
        have hb : Blk wr q 51 #[.int .i64 4, .int .u32 0, .int .u32 0, .int .u64 0, .int .u32 0, .int .u32 0, .int .u32 0, .slice none 0 0, .string ⟨#[]⟩, .slice A L.length c, .slice none 0 0, .int .u16 0, .int .u32 0, .int .u8 0, .slice none 0 0, .slice none 0 0] := HS.out.at 1 rfl
        have hone : (#[.int .i64 4, .int .u32 0, .int .u32 0, .int .u64 0, .int .u32 0, .int .u32 0, .int .u32 0, .slice none 0 0, .string ⟨#[]⟩, .slice A L.length c, .slice none 0 0, .int .u16 0, .int .u32 0, .int .u8 0, .slice none 0 0, .slice none 0 0] : Array Value).all (·.oneCell') = true := by kernel_rfl
        have HS6 := Lib.hid (HS.out.setR1 #[.int .i64 4, .int .u32 0, .int .u32 0, .int .u64 0, .int .u32 0, .int .u32 0, .int .u32 0, .slice none 0 0, .string ⟨#[]⟩, .slice A L.length c, .slice none 0 0, .int .u16 0, .int .u32 0, .int .u8 0, .slice none 0 0, .slice none 0 0])
        go_wp2_with (first | refine wpList_load_row rfl 51 (.tmp 6) rfl q rfl 51 _ (0, 0) _ hb hd rfl st51I ?_ | refine wpList_store_row rfl 51 (.tmp 6) (.tmp _) rfl q #[.int .i64 4, .int .u32 0, .int .u32 0, .int .u64 0, .int .u32 0, .int .u32 0, .int .u32 0, .slice none 0 0, .string ⟨#[]⟩, .slice A L.length c, .slice none 0 0, .int .u16 0, .int .u32 0, .int .u8 0, .slice none 0 0, .slice none 0 0] rfl rfl 51 _ hb st51I rfl hone ?_)
        refine bodyPost_ret (results_cell_row (p := 6) Try.results30 _ _ q 51 _ (0, 0) _ rfl (HS6.out.at 1 rfl) hd rfl st51I) rfl ?_
        have hcap := (own_cap (show World.ownsRow _ 0 43 1 (.slice A L.length c) L.length _ from HS6.out.at 2 rfl)).2
        obtain ⟨J2, hle2, hs7, hcl⟩ := HS6.out.drop.drop.freezeRow
        refine ⟨J2, ⟨4, 0, 0, 0, 0, 0, 0, [], ⟨#[]⟩, L, [], 0, 0, 0, [], []⟩, ⟨nilV, .slice A L.length c, nilV, nilV, nilV⟩, rfl, hle2, hs7, ⟨SlC.nil J2 _, ⟨A, c, rfl, hcl, hcap⟩, SlC.nil J2 _, SlC.nil J2 _, SlC.nil J2 _⟩, raw_mk (by simp) (by simp) (by simp) (by simp) (by simp) (by simp) (by simp) HIN.out.2.1 (by simp) (by simp) (by simp) (by simp) (by simp) (Nat.zero_le _) (by have := HIN.out.1; simp only []; omega) (Nat.zero_le _) (Nat.zero_le _) (Nat.zero_le _) (Nat.zero_le _), .inl rfl, fun p hp => ?_⟩
        have h5 := (HF.out p hp).1
        rw [HE.out p hp] at h5
        exact h5
end Go.Proofs.Ytddopbbmgpnjjaa
