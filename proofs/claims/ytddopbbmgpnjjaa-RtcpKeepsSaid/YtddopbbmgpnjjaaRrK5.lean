/- rtcp.read of a body of kind 5. -/
import Derived.Test.YtddopbbmgpnjjaaRrP
namespace Go.Proofs.Ytddopbbmgpnjjaa
open Go.RowKit
set_option linter.unusedSimpArgs false

set_option maxRecDepth 100000 in
set_option maxHeartbeats 20000000 in
theorem read5 (J0 : Img) (M : List Res) (w : World) (f s : Int) (p9 : Nat) (r : RS) (b : Res) (T : Pk → Prop) (hT : ∀ p, T p → Good p ∧ PkOk p ∧ p.kind = 5 ∧ r = (evenL (bodyL p), false)) (hk : kindP f s = 5) (hf : 0 ≤ f ∧ f ≤ 255) (hl : r.1.length ≤ 2000) (hst : St J0 (b :: M) w) (hR : Rdr J0 p9 r b) :
    Calls Try.prog 30 #[.int .u8 f, .int .u8 s, .pointer (some ⟨p9, 0, none⟩)] w (RdOk J0 M T) := by
  have HT := Lib.hid hT
  have HK := kindC f s (w.alloc (.cells #[.int .i64 0, .int .u32 0, .int .u32 0, .int .u64 0, .int .u32 0, .int .u32 0, .int .u32 0, .slice none 0 0, .string ⟨#[]⟩, .slice none 0 0, .slice none 0 0, .int .u16 0, .int .u32 0, .int .u8 0, .slice none 0 0, .slice none 0 0] 51)) hf
  rw [hk] at HK
  have HK := Lib.hid HK
  have HR := Lib.hid hR
  have hs1 := (hst.alloc 51 #[.int .i64 0, .int .u32 0, .int .u32 0, .int .u64 0, .int .u32 0, .int .u32 0, .int .u32 0, .slice none 0 0, .string ⟨#[]⟩, .slice none 0 0, .slice none 0 0, .int .u16 0, .int .u32 0, .int .u8 0, .slice none 0 0, .slice none 0 0]).swap1
  obtain ⟨q, hq⟩ : ∃ q, q = w.heap.size := ⟨_, rfl⟩
  rw [← hq] at hs1
  have HL := Lib.hid hl
  clear hT hk hR hst hl
  obtain ⟨fs, hd⟩ := st51D
  go_enter Try.func30, Try.ntmps30
  go_upto_region 1 with fail
  rw [← hq]
  clear hq
  generalize World.alloc w _ = W at hs1 HK ⊢
  have HS := Lib.hid hs1
  clear hs1
  obtain ⟨hcA, hfA, hlA⟩ := Blk.all (HS.out.at 1 rfl)
  go_wp2_with fail
  go_at_call 61
  refine HK.out.mono ?_
  clear HK
  rintro e w0 ⟨rfl, hw⟩
  subst hw
  have hs9 : St J0 (b :: bk q 51 #[.int .i64 5, .int .u32 0, .int .u32 0, .int .u64 0, .int .u32 0, .int .u32 0, .int .u32 0, .slice none 0 0, .string ⟨#[]⟩, .slice none 0 0, .slice none 0 0, .int .u16 0, .int .u32 0, .int .u8 0, .slice none 0 0, .slice none 0 0] :: M) ((W).setCell ⟨q, 0, none⟩ (.int .i64 5)) := (HS.out.swap1.set 0 (.int .i64 5)).swap1
  have HS := Lib.hid hs9
  clear hs9
  obtain ⟨hcB, hfB, hlB⟩ := Blk.all (HS.out.at 1 rfl)
  have HC := Lib.hid (rd_u32 (I := J0) p9 r b HS.out HR.out)
  go_wp2_with fail
  go_at_call 62
  refine HC.out.mono ?_
  clear HC HS HR hcA hfA hlA
  try clear hcB hfB hlB
  rintro e w1 ⟨_, _, _, rfl, _, hs, rfl, rfl, b, hR, rfl⟩
  obtain ⟨x1, hx⟩ : ∃ z, z = ((numL (cutS 4 r).1 : Nat) : Int) := ⟨_, rfl⟩
  obtain ⟨r1, hr⟩ : ∃ z, z = (cutS 4 r).2 := ⟨_, rfl⟩
  have hrng := nm_rng 4 r 4 (by decide)
  rw [← hx] at hrng ⊢
  rw [← hr] at hR
  obtain ⟨x1a, x1b⟩ := hrng
  have HL := Lib.hid (show r1.1.length ≤ 2000 from (by rw [hr]; exact Nat.le_trans (cutS_left 4 r) HL.out))
  replace x1b : x1 ≤ 4294967295 := (by have h9 : ((256 ^ 4 : Nat) : Int) = 4294967296 := (by decide); omega)
  have HXx1 := Lib.hid (And.intro hx hr)
  have HS := Lib.hid hs
  have HR := Lib.hid hR
  clear hx hr hs hR
  obtain ⟨hcA, hfA, hlA⟩ := Blk.all (HS.out.at 1 rfl)
  have hs9 : St J0 (b :: bk q 51 #[.int .i64 5, .int .u32 x1, .int .u32 0, .int .u64 0, .int .u32 0, .int .u32 0, .int .u32 0, .slice none 0 0, .string ⟨#[]⟩, .slice none 0 0, .slice none 0 0, .int .u16 0, .int .u32 0, .int .u8 0, .slice none 0 0, .slice none 0 0] :: M) ((w1).setCell ⟨q, 1, none⟩ (.int .u32 x1)) := (HS.out.swap1.set 1 (.int .u32 x1)).swap1
  have HS := Lib.hid hs9
  clear hs9
  obtain ⟨hcB, hfB, hlB⟩ := Blk.all (HS.out.at 1 rfl)
  have HC := Lib.hid (rd_u32 (I := J0) p9 r1 b HS.out HR.out)
  go_wp2_with fail
  go_at_call 62
  refine HC.out.mono ?_
  clear HC HS HR hcA hfA hlA
  try clear hcB hfB hlB
  rintro e w2 ⟨_, _, _, rfl, _, hs, rfl, rfl, b, hR, rfl⟩
  obtain ⟨x2, hx⟩ : ∃ z, z = ((numL (cutS 4 r1).1 : Nat) : Int) := ⟨_, rfl⟩
  obtain ⟨r2, hr⟩ : ∃ z, z = (cutS 4 r1).2 := ⟨_, rfl⟩
  have hrng := nm_rng 4 r1 4 (by decide)
  rw [← hx] at hrng ⊢
  rw [← hr] at hR
  obtain ⟨x2a, x2b⟩ := hrng
  have HL := Lib.hid (show r2.1.length ≤ 2000 from (by rw [hr]; exact Nat.le_trans (cutS_left 4 r1) HL.out))
  replace x2b : x2 ≤ 4294967295 := (by have h9 : ((256 ^ 4 : Nat) : Int) = 4294967296 := (by decide); omega)
  have HXx2 := Lib.hid (And.intro hx hr)
  have HS := Lib.hid hs
  have HR := Lib.hid hR
  clear hx hr hs hR
  obtain ⟨hcA, hfA, hlA⟩ := Blk.all (HS.out.at 1 rfl)
  have hs9 : St J0 (b :: bk q 51 #[.int .i64 5, .int .u32 x1, .int .u32 x2, .int .u64 0, .int .u32 0, .int .u32 0, .int .u32 0, .slice none 0 0, .string ⟨#[]⟩, .slice none 0 0, .slice none 0 0, .int .u16 0, .int .u32 0, .int .u8 0, .slice none 0 0, .slice none 0 0] :: M) ((w2).setCell ⟨q, 2, none⟩ (.int .u32 x2)) := (HS.out.swap1.set 2 (.int .u32 x2)).swap1
  have HS := Lib.hid hs9
  clear hs9
  obtain ⟨hcB, hfB, hlB⟩ := Blk.all (HS.out.at 1 rfl)
  have HF := Lib.hid (show ∀ p, T p → (⟨5, x1, x2, 0, 0, 0, 0, [], ⟨#[]⟩, [], p.seqs, 0, 0, 0, [], []⟩ : Pk) = p ∧ r2 = ((piecesP p.seqs).flatMap pieceB, false) ∧ Ord p.seqs ∧ Rng p.seqs from fun p hp => by
    obtain ⟨hg, hok, hk, hr⟩ := HT.out p hp
    obtain ⟨h1, h2⟩ := shape5 hg hk
    have ho : Ord p.seqs := by
      have := hg.1
      unfold KindOk at this
      rcases this with h | h | h | h | h | h | h
      all_goals first | exact h.2.1 | (exfalso; omega)
    rw [h2] at hr
    obtain ⟨h3, hr⟩ := rd4_of HXx1.out hok.sender hr
    obtain ⟨h4, hr6⟩ := rd4_of HXx2.out hok.media hr
    have hrg := hok.seqs
    rw [h3, h4, ← h1]
    exact ⟨rfl, hr6, ho, hrg⟩)
  go_upto_region 17 with fail
  generalize World.setCell _ _ _ = W2 at HS hcB hfB hlB ⊢
  have hsr := (HS.out.nil (e := 42) (size := 1)).up12
  clear HS
  have HS := Lib.hid hsr
  clear hsr
  try clear hcA hfA hlA
  clear hcB hfB hlB
  go_loopw [] (fun wr => ∃ (L : List Int) (A : Option Addr) (c : Nat) (rL : RS) (b9 : Res), Hid (St J0 (b9 :: bk q 51 #[.int .i64 5, .int .u32 x1, .int .u32 x2, .int .u64 0, .int .u32 0, .int .u32 0, .int .u32 0, .slice none 0 0, .string ⟨#[]⟩, .slice none 0 0, .slice A L.length c, .int .u16 0, .int .u32 0, .int .u8 0, .slice none 0 0, .slice none 0 0] :: row 42 1 (.slice A L.length c) L.length (flat u16C L) :: M) wr ∧ Rdr J0 p9 rL b9 ∧ rL.1.length ≤ 2000 ∧ L.length + 17 * mS rL ≤ 34017 ∧ Rng L ∧ ∀ p, T p → ∃ dn t, piecesP p.seqs = dn ++ t ∧ L = dn.flatMap (fun x => expK x.1 x.2 16) ∧ rL = (t.flatMap pieceB, false))) (fun wr => rdM wr p9)
  case atStart => exact ⟨[], none, 0, r2, b, Lib.hid ⟨HS.out, HR.out, HL.out, by have := mS_lt HL.out; simp only [List.length_nil]; omega, (fun x hx => by cases hx), fun p hp => ⟨[], piecesP p.seqs, rfl, rfl, (HF.out p hp).2.1⟩⟩⟩
  case round =>
    obtain ⟨L, A, c, rL, b, hh⟩ := hrel
    obtain ⟨hs, hR, hl9, hlen, hraw, ht⟩ := hh.out
    clear hh HS HR HL
    have HS := Lib.hid hs
    have HR := Lib.hid hR
    have HL := Lib.hid hl9
    have HIN := Lib.hid (And.intro hlen (And.intro hraw ht))
    have HBR := Lib.hid (show L.length ≤ 34017 by omega)
    clear hs hR hl9 hlen hraw ht
    obtain ⟨hcA, hfA, hlA⟩ := Blk.all (HS.out.at 1 rfl)
    have HLf := Lib.hid (rd_left (I := J0) p9 rL b HS.out HR.out)
    have HBd := Lib.hid (rd_bad (I := J0) p9 rL b HS.out HR.out)
    obtain ⟨ln, hln⟩ : ∃ n, n = rL.1.length := ⟨_, rfl⟩
    obtain ⟨bd, hbd⟩ : ∃ x, x = rL.2 := ⟨_, rfl⟩
    rw [← hln] at HLf
    rw [← hbd] at HBd
    have HLN := Lib.hid (And.intro hln hbd)
    clear hln hbd
    rcases Nat.eq_zero_or_pos ln with h0 | h0
    · subst h0
      go_upto_region 41 with (go_at_call 25; refine HLf.out.mono ?_; rintro e w3 ⟨rfl, hw⟩; subst hw)
      have HE := Lib.hid (show ∀ p, T p → p.seqs = L from fun p hp => by
        obtain ⟨dn, t, h1, h0, h2⟩ := HIN.out.2.2 p hp
        obtain ⟨h3, h4⟩ := HLN.out
        rw [h2] at h3
        rw [fm_zero (fun x => by show 0 < (u16B x.1 ++ u16B x.2).length; simp [u16B_len]) h3.symm, List.append_nil] at h1
        rw [h0, ← h1]
        exact (pieces_back (HF.out p hp).2.2.1 (HF.out p hp).2.2.2).symm)
      rcases Nat.eq_zero_or_pos L.length with hz | hz
      · obtain rfl : L = [] := List.length_eq_zero_iff.1 hz
        clear hz
        have hnn : (#[.int .i64 5, .int .u32 x1, .int .u32 x2, .int .u64 0, .int .u32 0, .int .u32 0, .int .u32 0, .slice none 0 0, .string ⟨#[]⟩, .slice none 0 0, .slice A 0 c, .int .u16 0, .int .u32 0, .int .u8 0, .slice none 0 0, .slice none 0 0] : Array Value) = #[.int .i64 5, .int .u32 x1, .int .u32 x2, .int .u64 0, .int .u32 0, .int .u32 0, .int .u32 0, .slice none 0 0, .string ⟨#[]⟩, .slice none 0 0, .slice A 0 c, .int .u16 0, .int .u32 0, .int .u8 0, .slice none 0 0, .slice none 0 0] := rfl
        have hb : Blk wr q 51 #[.int .i64 5, .int .u32 x1, .int .u32 x2, .int .u64 0, .int .u32 0, .int .u32 0, .int .u32 0, .slice none 0 0, .string ⟨#[]⟩, .slice none 0 0, .slice A 0 c, .int .u16 0, .int .u32 0, .int .u8 0, .slice none 0 0, .slice none 0 0] := HS.out.at 1 rfl
        have hone : (#[.int .i64 5, .int .u32 x1, .int .u32 x2, .int .u64 0, .int .u32 0, .int .u32 0, .int .u32 0, .slice none 0 0, .string ⟨#[]⟩, .slice none 0 0, .slice A 0 c, .int .u16 0, .int .u32 0, .int .u8 0, .slice none 0 0, .slice none 0 0] : Array Value).all (·.oneCell') = true := by kernel_rfl
        have HS6 := Lib.hid (HS.out.setR1 #[.int .i64 5, .int .u32 x1, .int .u32 x2, .int .u64 0, .int .u32 0, .int .u32 0, .int .u32 0, .slice none 0 0, .string ⟨#[]⟩, .slice none 0 0, .slice A 0 c, .int .u16 0, .int .u32 0, .int .u8 0, .slice none 0 0, .slice none 0 0])
        go_wp2_with (first | refine wpList_load_row rfl 51 (.tmp 6) rfl q rfl 51 _ (0, 0) _ hb hd rfl st51I ?_ | refine wpList_store_row rfl 51 (.tmp 6) (.tmp _) rfl q #[.int .i64 5, .int .u32 x1, .int .u32 x2, .int .u64 0, .int .u32 0, .int .u32 0, .int .u32 0, .slice none 0 0, .string ⟨#[]⟩, .slice none 0 0, .slice A 0 c, .int .u16 0, .int .u32 0, .int .u8 0, .slice none 0 0, .slice none 0 0] rfl rfl 51 _ hb st51I rfl hone ?_)
        refine bodyPost_ret (results_cell_row (p := 6) Try.results30 _ _ q 51 _ (0, 0) _ rfl (HS6.out.at 1 rfl) hd rfl st51I) rfl ?_
        refine ⟨J0, ⟨5, x1, x2, 0, 0, 0, 0, [], ⟨#[]⟩, [], [], 0, 0, 0, [], []⟩, ⟨nilV, nilV, .slice A 0 c, nilV, nilV⟩, rfl, .refl J0, HS6.out.drop.drop.drop, ⟨SlC.nil J0 _, SlC.nil J0 _, ⟨A, c, rfl, Cells.nil _ _, Nat.zero_le _⟩, SlC.nil J0 _, SlC.nil J0 _⟩, raw_mk ⟨x1a, x1b⟩ ⟨x2a, x2b⟩ (by simp) (by simp) (by simp) (by simp) (by simp) (by simp) (by simp) (by simp) (by simp) (by simp) (by simp) (Nat.zero_le _) (Nat.zero_le _) (Nat.zero_le _) (Nat.zero_le _) (Nat.zero_le _) (Nat.zero_le _), .inl rfl, fun p hp => ?_⟩
        have h5 := (HF.out p hp).1
        rw [HE.out p hp] at h5
        exact h5
      · have hzi : (0 : Int) < (L.length : Int) := by omega
        obtain ⟨g, cur, eA, hg, -⟩ := HS.out.swap2.rowBk (by rw [flat_len (s := 1) (fun _ => rfl)]; omega)
        subst eA
        have hsr : Srt J0 (bk q 51 #[.int .i64 5, .int .u32 x1, .int .u32 x2, .int .u64 0, .int .u32 0, .int .u32 0, .int .u32 0, .slice none 0 0, .string ⟨#[]⟩, .slice none 0 0, .slice (some ⟨g, 0, none⟩) L.length c, .int .u16 0, .int .u32 0, .int .u8 0, .slice none 0 0, .slice none 0 0] :: b :: M) g c 0 0 L wr ∨ True := .inr trivial
        clear hsr
        obtain ⟨L0, hL0⟩ : ∃ x, x = L[0] := ⟨_, rfl⟩
        have hc0 : wr.cell? ⟨g, 0, none⟩ = some (.int .u16 L0) := by
          obtain ⟨g', cur', e1, hg', hlc, hcm, hcs, hct, hs⟩ := HS.out.swap2.rowBk (by rw [flat_len (s := 1) (fun _ => rfl)]; omega)
          injection e1 with e1
          injection e1 with e1
          subst e1
          rw [(show Blk wr _ 42 cur' from hs.at 0 rfl).cell 0, hL0]
          exact row_first hct hz
        have HL0 := Lib.hid hL0
        clear hL0
        have hs1 := HS.out.alloc 42 #[.int .u16 L0]
        obtain ⟨q8, hq8⟩ : ∃ q, q = wr.heap.size := ⟨_, rfl⟩
        rw [← hq8] at hs1
        clear HS
        have HS := Lib.hid hs1.rowUp3
        clear hs1
        go_upto_region 43 with fail
        rw [← hq8]
        clear hq8 hcA hfA hlA hc0
        generalize World.alloc wr _ = W4 at HS ⊢
        have HSC := Lib.hid (sortC J0 (b :: bk q 51 #[.int .i64 5, .int .u32 x1, .int .u32 x2, .int .u64 0, .int .u32 0, .int .u32 0, .int .u32 0, .slice none 0 0, .string ⟨#[]⟩, .slice none 0 0, .slice (some ⟨g, 0, none⟩) L.length c, .int .u16 0, .int .u32 0, .int .u8 0, .slice none 0 0, .slice none 0 0] :: M) W4 g c q8 L0 L (by have := HBR.out; omega) HIN.out.2.1 HS.out)
        obtain ⟨hcA, hfA, hlA⟩ := Blk.all (HS.out.at 3 rfl)
        go_wp2_with fail
        go_at_call 64
        refine HSC.out.mono ?_
        clear HSC HS hcA hfA hlA
        rintro e W6 ⟨rfl, l', hkp, hs⟩
        have hln := hkp.len
        have HKP := Lib.hid hkp
        clear hkp
        unfold Srt at hs
        rw [hln] at hs
        have HS := Lib.hid (show St J0 (b :: bk q 51 #[.int .i64 5, .int .u32 x1, .int .u32 x2, .int .u64 0, .int .u32 0, .int .u32 0, .int .u32 0, .slice none 0 0, .string ⟨#[]⟩, .slice none 0 0, .slice (some ⟨g, 0, none⟩) L.length c, .int .u16 0, .int .u32 0, .int .u8 0, .slice none 0 0, .slice none 0 0] :: row 42 1 (.slice (some ⟨g, 0, none⟩) L.length c) L.length (flat u16C l') :: M) W6 from hs.swap1.drop.up12)
        have HLN2 := Lib.hid hln
        clear hs hln
        have hb : Blk W6 q 51 #[.int .i64 5, .int .u32 x1, .int .u32 x2, .int .u64 0, .int .u32 0, .int .u32 0, .int .u32 0, .slice none 0 0, .string ⟨#[]⟩, .slice none 0 0, .slice (some ⟨g, 0, none⟩) L.length c, .int .u16 0, .int .u32 0, .int .u8 0, .slice none 0 0, .slice none 0 0] := HS.out.at 1 rfl
        have hone : (#[.int .i64 5, .int .u32 x1, .int .u32 x2, .int .u64 0, .int .u32 0, .int .u32 0, .int .u32 0, .slice none 0 0, .string ⟨#[]⟩, .slice none 0 0, .slice (some ⟨g, 0, none⟩) L.length c, .int .u16 0, .int .u32 0, .int .u8 0, .slice none 0 0, .slice none 0 0] : Array Value).all (·.oneCell') = true := by kernel_rfl
        have HS6 := Lib.hid (HS.out.setR1 #[.int .i64 5, .int .u32 x1, .int .u32 x2, .int .u64 0, .int .u32 0, .int .u32 0, .int .u32 0, .slice none 0 0, .string ⟨#[]⟩, .slice none 0 0, .slice (some ⟨g, 0, none⟩) L.length c, .int .u16 0, .int .u32 0, .int .u8 0, .slice none 0 0, .slice none 0 0])
        go_wp2_with (first | refine wpList_load_row rfl 51 (.tmp 6) rfl q rfl 51 _ (0, 0) _ hb hd rfl st51I ?_ | refine wpList_store_row rfl 51 (.tmp 6) (.tmp _) rfl q #[.int .i64 5, .int .u32 x1, .int .u32 x2, .int .u64 0, .int .u32 0, .int .u32 0, .int .u32 0, .slice none 0 0, .string ⟨#[]⟩, .slice none 0 0, .slice (some ⟨g, 0, none⟩) L.length c, .int .u16 0, .int .u32 0, .int .u8 0, .slice none 0 0, .slice none 0 0] rfl rfl 51 _ hb st51I rfl hone ?_)
        refine bodyPost_ret (results_cell_row (p := 6) Try.results30 _ _ q 51 _ (0, 0) _ rfl (HS6.out.at 1 rfl) hd rfl st51I) rfl ?_
        have hcap := (own_cap (show World.ownsRow _ 0 42 1 (.slice (some ⟨g, 0, none⟩) L.length c) L.length _ from HS6.out.at 2 rfl)).2
        obtain ⟨J2, hle2, hs7, hcl, hnew⟩ := HS6.out.drop.drop.freezeRowN (by rw [flat_len (s := 1) (fun _ => rfl), HLN2.out]; omega)
        refine ⟨J2, ⟨5, x1, x2, 0, 0, 0, 0, [], ⟨#[]⟩, [], l', 0, 0, 0, [], []⟩, ⟨nilV, nilV, .slice (some ⟨g, 0, none⟩) L.length c, nilV, nilV⟩, rfl, hle2, hs7, ⟨SlC.nil J2 _, SlC.nil J2 _, ⟨some ⟨g, 0, none⟩, c, by rw [HLN2.out], hcl, by rw [HLN2.out]; exact hcap⟩, SlC.nil J2 _, SlC.nil J2 _⟩, raw_mk ⟨x1a, x1b⟩ ⟨x2a, x2b⟩ (by simp) (by simp) (by simp) (by simp) (by simp) (by simp) HKP.out.rng (by simp) (by simp) (by simp) (by simp) (Nat.zero_le _) (Nat.zero_le _) (by have := HLN2.out; have := HBR.out; simp only []; omega) (Nat.zero_le _) (Nat.zero_le _) (Nat.zero_le _), .inr hnew, fun p hp => ?_⟩
        have h5 := (HF.out p hp).1
        have h6 := (HF.out p hp).2.2.1
        rw [HE.out p hp] at h5 h6
        have h7 := HKP.out.same (HL0.out ▸ ord_sort h6 hz)
        rw [h7]
        exact h5
    · have h0i : (0 : Int) < (ln : Int) := by omega
      cases bd
      · skip
        have HPOS := Lib.hid (show 0 < rL.1.length from HLN.out.1 ▸ h0)
        have HM0 := Lib.hid (rdM_of HR.out HS.out)
        go_upto_region 30 with (first | (go_at_call 25; refine HLf.out.mono ?_; rintro e w3 ⟨rfl, hw⟩; subst hw) | (go_at_call 29; refine HBd.out.mono ?_; rintro e w3 ⟨rfl, hw⟩; subst hw))
        have HC := Lib.hid (rd_u16 (I := J0) p9 rL b HS.out HR.out)
        go_wp2_with fail
        go_at_call 28
        refine HC.out.mono ?_
        clear HC HS HR hcA hfA hlA
        try clear hcB hfB hlB
        rintro e w3 ⟨_, _, _, rfl, _, hs, rfl, rfl, b, hR, rfl⟩
        obtain ⟨s, hx⟩ : ∃ z, z = ((numL (cutS 2 rL).1 : Nat) : Int) := ⟨_, rfl⟩
        obtain ⟨r3, hr⟩ : ∃ z, z = (cutS 2 rL).2 := ⟨_, rfl⟩
        have hrng := nm_rng 2 rL 2 (by decide)
        rw [← hx] at hrng ⊢
        rw [← hr] at hR
        obtain ⟨sa, sb⟩ := hrng
        have HL := Lib.hid (show r3.1.length ≤ 2000 from (by rw [hr]; exact Nat.le_trans (cutS_left 2 rL) HL.out))
        replace sb : s ≤ 65535 := (by have h9 : ((256 ^ 2 : Nat) : Int) = 65536 := (by decide); omega)
        have HXs := Lib.hid (And.intro hx hr)
        have HS := Lib.hid hs
        have HR := Lib.hid hR
        clear hx hr hs hR
        obtain ⟨hcA, hfA, hlA⟩ := Blk.all (HS.out.at 1 rfl)
        have HC := Lib.hid (rd_u16 (I := J0) p9 r3 b HS.out HR.out)
        go_wp2_with fail
        go_at_call 28
        refine HC.out.mono ?_
        clear HC HS HR hcA hfA hlA
        try clear hcB hfB hlB
        rintro e w4 ⟨_, _, _, rfl, _, hs, rfl, rfl, b, hR, rfl⟩
        obtain ⟨m, hx⟩ : ∃ z, z = ((numL (cutS 2 r3).1 : Nat) : Int) := ⟨_, rfl⟩
        obtain ⟨r4, hr⟩ : ∃ z, z = (cutS 2 r3).2 := ⟨_, rfl⟩
        have hrng := nm_rng 2 r3 2 (by decide)
        rw [← hx] at hrng ⊢
        rw [← hr] at hR
        obtain ⟨ma, mb⟩ := hrng
        have HL := Lib.hid (show r4.1.length ≤ 2000 from (by rw [hr]; exact Nat.le_trans (cutS_left 2 r3) HL.out))
        replace mb : m ≤ 65535 := (by have h9 : ((256 ^ 2 : Nat) : Int) = 65536 := (by decide); omega)
        have HXm := Lib.hid (And.intro hx hr)
        have HS := Lib.hid hs
        have HR := Lib.hid hR
        clear hx hr hs hR
        obtain ⟨hcA, hfA, hlA⟩ := Blk.all (HS.out.at 1 rfl)
        go_upto_region 31 with fail
        have hsr := HS.out.litSrcV (P := Try.prog) (t := 44) (e := 42) (cs := #[.int .u16 s]) (n := 1) (size := 1) rfl (by decide) Try.underlying44 (by simp [Value.oneCell'])
        have hsg := (HS.out.grow (.cells #[.int .u16 s] 42)).swap2
        obtain ⟨i0, hi0, hz0, hz1, hz2⟩ := info_parts info42
        go_wp2_with (at_builtin; refine wpList_append_src _ rfl _ _ 44 44 rfl 0 42 i0 _ 1 2 Try.underlying44 hi0 hz0 hz1 hz2 rfl _ L.length (flat u16C L) rfl hsg.head _ 1 _ rfl hsr (by have := HBR.out; unfold maxLen; omega) (by have := HBR.out; omega) (Nat.zero_le _) ?_)
        intro v' w5 hown' hgrow hat
        have hown2 : w5.ownsRow 0 42 1 v' (L.length + 1) (flat u16C (L ++ [s])) := by rw [flat_append]; exact hown'
        obtain ⟨A10, c10, rfl⟩ := own_form hown2
        have hs5 := hsg.grown hgrow hown2 (by simpa using hat)
        have HS6 := Lib.hid (show St J0 (b :: bk q 51 #[.int .i64 5, .int .u32 x1, .int .u32 x2, .int .u64 0, .int .u32 0, .int .u32 0, .int .u32 0, .slice none 0 0, .string ⟨#[]⟩, .slice none 0 0, .slice A10 (L.length + 1) c10, .int .u16 0, .int .u32 0, .int .u8 0, .slice none 0 0, .slice none 0 0] :: row 42 1 (.slice A10 (L.length + 1) c10) (L.length + 1) (flat u16C (L ++ [s])) :: M) (w5.setCell ⟨q, 10, none⟩ (.slice A10 (L.length + 1) c10)) from ((hs5.swap1.set 10 (.slice A10 (L.length + 1) c10)).swap1.swap2))
        clear HS
        obtain ⟨hcp, hfp, hlp⟩ := Blk.all (hs5.at 1 rfl)
        clear hs5 hown' hown2 hgrow hat hsr hsg hcA hfA hlA
        have HMS := Lib.hid (show mS r4 < mS rL from by
          have m0 : mS r3 < mS rL := by rw [HXs.out.2]; exact mS_cut (by decide) HLN.out.2.symm
          have m1 : mS r4 ≤ mS r3 := by rw [HXm.out.2]; exact mS_le
          omega)
        go_upto_region 33 with fail
        clear hcp hfp hlp
        go_loopw [133] (fun kv wr' => ∃ (k : Nat) (A1 : Option Addr) (c1 : Nat) (L2 : List Int), kv = .int .u16 k ∧ k ≤ 16 ∧ Hid (L2 = L ++ expK s m k ∧ St J0 (b :: bk q 51 #[.int .i64 5, .int .u32 x1, .int .u32 x2, .int .u64 0, .int .u32 0, .int .u32 0, .int .u32 0, .slice none 0 0, .string ⟨#[]⟩, .slice none 0 0, .slice A1 L2.length c1, .int .u16 0, .int .u32 0, .int .u8 0, .slice none 0 0, .slice none 0 0] :: row 42 1 (.slice A1 L2.length c1) L2.length (flat u16C L2) :: M) wr')) (fun kv _ => 16 - (intOf kv).toNat)
        case atStart => exact ⟨0, A10, c10, L ++ [s], rfl, by omega, Lib.hid ⟨rfl, by rw [List.length_append]; exact HS6.out⟩⟩
        case round =>
          obtain ⟨k, A1, c1, L2, rfl, hk, hh⟩ := hrel
          obtain ⟨hL2, hs⟩ := hh.out
          have HS := Lib.hid hs
          have HL2 := Lib.hid hL2
          have HB2 := Lib.hid (show L2.length ≤ 34034 by rw [hL2, List.length_append]; have := expK_len s m k; have := HBR.out; omega)
          clear hh HS6 hs hL2
          obtain ⟨hcA, hfA, hlA⟩ := Blk.all (HS.out.at 1 rfl)
          by_cases hlt : k < 16
          · have hki : (k : Int) < 16 := by omega
            have hbt := bit_test ma mb k
            have hsk := exp_num sa sb hlt
            cases hbk : bitB m k
            · have HBK := Lib.hid hbk
              rw [hbk] at hbt
              simp only [Bool.false_eq_true, if_false] at hbt
              clear hbk
              go_wp2
              go_roundw
              case rel => exact ⟨k + 1, A1, c1, L2, by go_num, by omega, Lib.hid ⟨by rw [expK_succ, HBK.out]; exact HL2.out, HS.out⟩⟩
              case measure => simp [intOf]; omega
            · have HBK := Lib.hid hbk
              rw [hbk] at hbt
              simp only [if_true] at hbt
              clear hbk
              go_upto_region 36 with fail
              have hsr := HS.out.litSrcV (P := Try.prog) (t := 44) (e := 42) (cs := #[.int .u16 ((s + (k : Int) + 1) % 65536)]) (n := 1) (size := 1) rfl (by decide) Try.underlying44 (by simp [Value.oneCell'])
              have hsg := (HS.out.grow (.cells #[.int .u16 ((s + (k : Int) + 1) % 65536)] 42)).swap2
              obtain ⟨i0, hi0, hz0, hz1, hz2⟩ := info_parts info42
              go_wp2_with (at_builtin; refine wpList_append_src _ rfl _ _ 44 44 rfl 0 42 i0 _ 1 2 Try.underlying44 hi0 hz0 hz1 hz2 rfl _ L2.length (flat u16C L2) rfl hsg.head _ 1 _ rfl hsr (by have := HB2.out; unfold maxLen; omega) (by have := HB2.out; omega) (Nat.zero_le _) ?_)
              intro v' w5 hown' hgrow hat
              have hown2 : w5.ownsRow 0 42 1 v' (L2.length + 1) (flat u16C (L2 ++ [((s + (k : Int) + 1) % 65536)])) := by rw [flat_append]; exact hown'
              obtain ⟨A10, c10, rfl⟩ := own_form hown2
              have hs5 := hsg.grown hgrow hown2 (by simpa using hat)
              have HS6 := Lib.hid (show St J0 (b :: bk q 51 #[.int .i64 5, .int .u32 x1, .int .u32 x2, .int .u64 0, .int .u32 0, .int .u32 0, .int .u32 0, .slice none 0 0, .string ⟨#[]⟩, .slice none 0 0, .slice A10 (L2.length + 1) c10, .int .u16 0, .int .u32 0, .int .u8 0, .slice none 0 0, .slice none 0 0] :: row 42 1 (.slice A10 (L2.length + 1) c10) (L2.length + 1) (flat u16C (L2 ++ [((s + (k : Int) + 1) % 65536)])) :: M) (w5.setCell ⟨q, 10, none⟩ (.slice A10 (L2.length + 1) c10)) from ((hs5.swap1.set 10 (.slice A10 (L2.length + 1) c10)).swap1.swap2))
              clear HS
              obtain ⟨hcp, hfp, hlp⟩ := Blk.all (hs5.at 1 rfl)
              clear hs5 hown' hown2 hgrow hat hsr hsg hcA hfA hlA
              have hk9 : (k : Int) + 1 ≤ 16 := by omega
              go_wp2
              go_roundw
              case rel => exact ⟨k + 1, A10, c10, L2 ++ [(s + (k : Int) + 1) % 65536], by go_num, by omega, Lib.hid ⟨by rw [expK_succ, HBK.out, HL2.out, List.append_assoc]; rfl, by rw [List.length_append]; exact HS6.out⟩⟩
              case measure => simp [intOf]; omega
          · obtain rfl : k = 16 := by omega
            go_wp2
            go_roundw
            case rel =>
              refine ⟨L2, A1, c1, r4, b, Lib.hid ⟨HS.out, HR.out, HL.out, ?_, ?_, ?_⟩⟩
              · have h1 := HIN.out.1
                have h2 := HMS.out
                have h3 := expK_len s m 16
                rw [HL2.out, List.length_append]
                omega
              · intro x hx
                rw [HL2.out] at hx
                rcases List.mem_append.1 hx with hx | hx
                · exact HIN.out.2.1 x hx
                · exact expK_rng ⟨sa, sb⟩ 16 x hx
              · intro p hp
                obtain ⟨dn, t, h1, h0, h2⟩ := HIN.out.2.2 p hp
                have h3 := congrArg List.length (congrArg Prod.fst h2)
                obtain ⟨y, t', ht', hby⟩ := fm_more (by rw [← h3]; exact HPOS.out)
                rw [hby] at h2
                have hyr := pieces_rng _ _ (Nat.le_refl _) (HF.out p hp).2.2.2 y (by rw [h1, ht']; simp)
                obtain ⟨he, h5⟩ := rdPc hyr h2 HXs.out HXm.out
                exact ⟨dn ++ [y], t', by rw [h1, ht']; simp, by rw [HL2.out, h0, List.flatMap_append, he]; simp, h5⟩
            case measure =>
              rw [rdM_of HR.out HS.out, HM0.out]
              exact HMS.out
      · skip
        go_upto_region 41 with (first | (go_at_call 25; refine HLf.out.mono ?_; rintro e w3 ⟨rfl, hw⟩; subst hw) | (go_at_call 29; refine HBd.out.mono ?_; rintro e w3 ⟨rfl, hw⟩; subst hw))
        have HE := Lib.hid (show ∀ p, T p → p.seqs = L from fun p hp => by
          obtain ⟨dn, t, h1, h0, h2⟩ := HIN.out.2.2 p hp
          obtain ⟨h3, h4⟩ := HLN.out
          rw [h2] at h4
          cases h4)
        rcases Nat.eq_zero_or_pos L.length with hz | hz
        · obtain rfl : L = [] := List.length_eq_zero_iff.1 hz
          clear hz
          have hnn : (#[.int .i64 5, .int .u32 x1, .int .u32 x2, .int .u64 0, .int .u32 0, .int .u32 0, .int .u32 0, .slice none 0 0, .string ⟨#[]⟩, .slice none 0 0, .slice A 0 c, .int .u16 0, .int .u32 0, .int .u8 0, .slice none 0 0, .slice none 0 0] : Array Value) = #[.int .i64 5, .int .u32 x1, .int .u32 x2, .int .u64 0, .int .u32 0, .int .u32 0, .int .u32 0, .slice none 0 0, .string ⟨#[]⟩, .slice none 0 0, .slice A 0 c, .int .u16 0, .int .u32 0, .int .u8 0, .slice none 0 0, .slice none 0 0] := rfl
          have hb : Blk wr q 51 #[.int .i64 5, .int .u32 x1, .int .u32 x2, .int .u64 0, .int .u32 0, .int .u32 0, .int .u32 0, .slice none 0 0, .string ⟨#[]⟩, .slice none 0 0, .slice A 0 c, .int .u16 0, .int .u32 0, .int .u8 0, .slice none 0 0, .slice none 0 0] := HS.out.at 1 rfl
          have hone : (#[.int .i64 5, .int .u32 x1, .int .u32 x2, .int .u64 0, .int .u32 0, .int .u32 0, .int .u32 0, .slice none 0 0, .string ⟨#[]⟩, .slice none 0 0, .slice A 0 c, .int .u16 0, .int .u32 0, .int .u8 0, .slice none 0 0, .slice none 0 0] : Array Value).all (·.oneCell') = true := by kernel_rfl
          have HS6 := Lib.hid (HS.out.setR1 #[.int .i64 5, .int .u32 x1, .int .u32 x2, .int .u64 0, .int .u32 0, .int .u32 0, .int .u32 0, .slice none 0 0, .string ⟨#[]⟩, .slice none 0 0, .slice A 0 c, .int .u16 0, .int .u32 0, .int .u8 0, .slice none 0 0, .slice none 0 0])
          go_wp2_with (first | refine wpList_load_row rfl 51 (.tmp 6) rfl q rfl 51 _ (0, 0) _ hb hd rfl st51I ?_ | refine wpList_store_row rfl 51 (.tmp 6) (.tmp _) rfl q #[.int .i64 5, .int .u32 x1, .int .u32 x2, .int .u64 0, .int .u32 0, .int .u32 0, .int .u32 0, .slice none 0 0, .string ⟨#[]⟩, .slice none 0 0, .slice A 0 c, .int .u16 0, .int .u32 0, .int .u8 0, .slice none 0 0, .slice none 0 0] rfl rfl 51 _ hb st51I rfl hone ?_)
          refine bodyPost_ret (results_cell_row (p := 6) Try.results30 _ _ q 51 _ (0, 0) _ rfl (HS6.out.at 1 rfl) hd rfl st51I) rfl ?_
          refine ⟨J0, ⟨5, x1, x2, 0, 0, 0, 0, [], ⟨#[]⟩, [], [], 0, 0, 0, [], []⟩, ⟨nilV, nilV, .slice A 0 c, nilV, nilV⟩, rfl, .refl J0, HS6.out.drop.drop.drop, ⟨SlC.nil J0 _, SlC.nil J0 _, ⟨A, c, rfl, Cells.nil _ _, Nat.zero_le _⟩, SlC.nil J0 _, SlC.nil J0 _⟩, raw_mk ⟨x1a, x1b⟩ ⟨x2a, x2b⟩ (by simp) (by simp) (by simp) (by simp) (by simp) (by simp) (by simp) (by simp) (by simp) (by simp) (by simp) (Nat.zero_le _) (Nat.zero_le _) (Nat.zero_le _) (Nat.zero_le _) (Nat.zero_le _) (Nat.zero_le _), .inl rfl, fun p hp => ?_⟩
          have h5 := (HF.out p hp).1
          rw [HE.out p hp] at h5
          exact h5
        · have hzi : (0 : Int) < (L.length : Int) := by omega
          obtain ⟨g, cur, eA, hg, -⟩ := HS.out.swap2.rowBk (by rw [flat_len (s := 1) (fun _ => rfl)]; omega)
          subst eA
          have hsr : Srt J0 (bk q 51 #[.int .i64 5, .int .u32 x1, .int .u32 x2, .int .u64 0, .int .u32 0, .int .u32 0, .int .u32 0, .slice none 0 0, .string ⟨#[]⟩, .slice none 0 0, .slice (some ⟨g, 0, none⟩) L.length c, .int .u16 0, .int .u32 0, .int .u8 0, .slice none 0 0, .slice none 0 0] :: b :: M) g c 0 0 L wr ∨ True := .inr trivial
          clear hsr
          obtain ⟨L0, hL0⟩ : ∃ x, x = L[0] := ⟨_, rfl⟩
          have hc0 : wr.cell? ⟨g, 0, none⟩ = some (.int .u16 L0) := by
            obtain ⟨g', cur', e1, hg', hlc, hcm, hcs, hct, hs⟩ := HS.out.swap2.rowBk (by rw [flat_len (s := 1) (fun _ => rfl)]; omega)
            injection e1 with e1
            injection e1 with e1
            subst e1
            rw [(show Blk wr _ 42 cur' from hs.at 0 rfl).cell 0, hL0]
            exact row_first hct hz
          have HL0 := Lib.hid hL0
          clear hL0
          have hs1 := HS.out.alloc 42 #[.int .u16 L0]
          obtain ⟨q8, hq8⟩ : ∃ q, q = wr.heap.size := ⟨_, rfl⟩
          rw [← hq8] at hs1
          clear HS
          have HS := Lib.hid hs1.rowUp3
          clear hs1
          go_upto_region 43 with fail
          rw [← hq8]
          clear hq8 hcA hfA hlA hc0
          generalize World.alloc wr _ = W4 at HS ⊢
          have HSC := Lib.hid (sortC J0 (b :: bk q 51 #[.int .i64 5, .int .u32 x1, .int .u32 x2, .int .u64 0, .int .u32 0, .int .u32 0, .int .u32 0, .slice none 0 0, .string ⟨#[]⟩, .slice none 0 0, .slice (some ⟨g, 0, none⟩) L.length c, .int .u16 0, .int .u32 0, .int .u8 0, .slice none 0 0, .slice none 0 0] :: M) W4 g c q8 L0 L (by have := HBR.out; omega) HIN.out.2.1 HS.out)
          obtain ⟨hcA, hfA, hlA⟩ := Blk.all (HS.out.at 3 rfl)
          go_wp2_with fail
          go_at_call 64
          refine HSC.out.mono ?_
          clear HSC HS hcA hfA hlA
          rintro e W6 ⟨rfl, l', hkp, hs⟩
          have hln := hkp.len
          have HKP := Lib.hid hkp
          clear hkp
          unfold Srt at hs
          rw [hln] at hs
          have HS := Lib.hid (show St J0 (b :: bk q 51 #[.int .i64 5, .int .u32 x1, .int .u32 x2, .int .u64 0, .int .u32 0, .int .u32 0, .int .u32 0, .slice none 0 0, .string ⟨#[]⟩, .slice none 0 0, .slice (some ⟨g, 0, none⟩) L.length c, .int .u16 0, .int .u32 0, .int .u8 0, .slice none 0 0, .slice none 0 0] :: row 42 1 (.slice (some ⟨g, 0, none⟩) L.length c) L.length (flat u16C l') :: M) W6 from hs.swap1.drop.up12)
          have HLN2 := Lib.hid hln
          clear hs hln
          have hb : Blk W6 q 51 #[.int .i64 5, .int .u32 x1, .int .u32 x2, .int .u64 0, .int .u32 0, .int .u32 0, .int .u32 0, .slice none 0 0, .string ⟨#[]⟩, .slice none 0 0, .slice (some ⟨g, 0, none⟩) L.length c, .int .u16 0, .int .u32 0, .int .u8 0, .slice none 0 0, .slice none 0 0] := HS.out.at 1 rfl
          have hone : (#[.int .i64 5, .int .u32 x1, .int .u32 x2, .int .u64 0, .int .u32 0, .int .u32 0, .int .u32 0, .slice none 0 0, .string ⟨#[]⟩, .slice none 0 0, .slice (some ⟨g, 0, none⟩) L.length c, .int .u16 0, .int .u32 0, .int .u8 0, .slice none 0 0, .slice none 0 0] : Array Value).all (·.oneCell') = true := by kernel_rfl
          have HS6 := Lib.hid (HS.out.setR1 #[.int .i64 5, .int .u32 x1, .int .u32 x2, .int .u64 0, .int .u32 0, .int .u32 0, .int .u32 0, .slice none 0 0, .string ⟨#[]⟩, .slice none 0 0, .slice (some ⟨g, 0, none⟩) L.length c, .int .u16 0, .int .u32 0, .int .u8 0, .slice none 0 0, .slice none 0 0])
          go_wp2_with (first | refine wpList_load_row rfl 51 (.tmp 6) rfl q rfl 51 _ (0, 0) _ hb hd rfl st51I ?_ | refine wpList_store_row rfl 51 (.tmp 6) (.tmp _) rfl q #[.int .i64 5, .int .u32 x1, .int .u32 x2, .int .u64 0, .int .u32 0, .int .u32 0, .int .u32 0, .slice none 0 0, .string ⟨#[]⟩, .slice none 0 0, .slice (some ⟨g, 0, none⟩) L.length c, .int .u16 0, .int .u32 0, .int .u8 0, .slice none 0 0, .slice none 0 0] rfl rfl 51 _ hb st51I rfl hone ?_)
          refine bodyPost_ret (results_cell_row (p := 6) Try.results30 _ _ q 51 _ (0, 0) _ rfl (HS6.out.at 1 rfl) hd rfl st51I) rfl ?_
          have hcap := (own_cap (show World.ownsRow _ 0 42 1 (.slice (some ⟨g, 0, none⟩) L.length c) L.length _ from HS6.out.at 2 rfl)).2
          obtain ⟨J2, hle2, hs7, hcl, hnew⟩ := HS6.out.drop.drop.freezeRowN (by rw [flat_len (s := 1) (fun _ => rfl), HLN2.out]; omega)
          refine ⟨J2, ⟨5, x1, x2, 0, 0, 0, 0, [], ⟨#[]⟩, [], l', 0, 0, 0, [], []⟩, ⟨nilV, nilV, .slice (some ⟨g, 0, none⟩) L.length c, nilV, nilV⟩, rfl, hle2, hs7, ⟨SlC.nil J2 _, SlC.nil J2 _, ⟨some ⟨g, 0, none⟩, c, by rw [HLN2.out], hcl, by rw [HLN2.out]; exact hcap⟩, SlC.nil J2 _, SlC.nil J2 _⟩, raw_mk ⟨x1a, x1b⟩ ⟨x2a, x2b⟩ (by simp) (by simp) (by simp) (by simp) (by simp) (by simp) HKP.out.rng (by simp) (by simp) (by simp) (by simp) (Nat.zero_le _) (Nat.zero_le _) (by have := HLN2.out; have := HBR.out; simp only []; omega) (Nat.zero_le _) (Nat.zero_le _) (Nat.zero_le _), .inr hnew, fun p hp => ?_⟩
          have h5 := (HF.out p hp).1
          have h6 := (HF.out p hp).2.2.1
          rw [HE.out p hp] at h5 h6
          have h7 := HKP.out.same (HL0.out ▸ ord_sort h6 hz)
          rw [h7]
          exact h5
end Go.Proofs.Ytddopbbmgpnjjaa
