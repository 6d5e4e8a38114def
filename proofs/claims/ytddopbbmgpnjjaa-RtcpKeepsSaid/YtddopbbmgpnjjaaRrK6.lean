/- rtcp.read of a body of kind 6. -/
import Derived.Test.YtddopbbmgpnjjaaRrP
namespace Go.Proofs.Ytddopbbmgpnjjaa
open Go.RowKit
set_option linter.unusedSimpArgs false

theorem i16_form (x : Int) : IntKind.i16.wrap x = if x % 65536 ≥ 32768 then x % 65536 - 65536 else x % 65536 := by
  simp only [IntKind.wrap, IntKind.signed, IntKind.bits, Bool.true_and]
  show (if decide (x % 65536 ≥ 32768) = true then x % 65536 - 65536 else x % 65536) = _
  simp only [decide_eq_true_eq]
theorem i16_rng (x : Int) : -32768 ≤ IntKind.i16.wrap x ∧ IntKind.i16.wrap x ≤ 32767 := by
  rw [i16_form]
  split <;> omega
theorem i16_back {a : Int} (h : -32768 ≤ a ∧ a ≤ 32767) : IntKind.i16.wrap (a % 65536) = a := by
  rw [i16_form]
  split <;> omega
theorem bad_no {a : Int} (h : badA a = false) (hn : ¬ a = 65536) : -32768 ≤ a ∧ a ≤ 32767 := by
  unfold badA withinB at h
  simp at h
  omega
theorem u8_mod' (x : Int) : IntKind.u8.wrap x = x % 256 := by simp only [IntKind.wrap, IntKind.signed, IntKind.bits]; rfl
/-- what arrivals leaves -/
def ArrsOk (J0 : Img) (M : List Res) (T : Pk → Prop) (q p9 : Nat) (x1 x2 : Int) (e : Ending) (w' : World) : Prop :=
  e = .returned (.tuple #[]) ∧ ∃ J bs rf ct L A c b' r', J0.le J ∧ St J (b' :: bk q 51 #[.int .i64 6, .int .u32 x1, .int .u32 x2, .int .u64 0, .int .u32 0, .int .u32 0, .int .u32 0, .slice none 0 0, .string ⟨#[]⟩, .slice none 0 0, .slice none 0 0, .int .u16 bs, .int .u32 rf, .int .u8 ct, .slice A L.length c, .slice none 0 0] :: row 3 1 (.slice A L.length c) L.length (flat intC L) :: M) w' ∧ Rdr J p9 r' b' ∧ (0 ≤ bs ∧ bs ≤ 65535) ∧ (0 ≤ rf ∧ rf ≤ 4294967295) ∧ (0 ≤ ct ∧ ct ≤ 255) ∧ L.length ≤ 65535 ∧ ∀ p, T p → p.base = bs ∧ p.ref = rf ∧ p.count = ct ∧ p.arrs = L
abbrev wrdF (l : List Int) (j : Nat) : List UInt8 := u16B (wordR l (7 * j))
theorem marks_range (l : List Int) : ∀ m, marksT l m = (List.range m).flatMap (wrdF l)
  | 0 => rfl
  | m + 1 => by
    rw [List.range_succ, List.flatMap_append, ← marks_range l m]
    simp [marksT]
theorem range_next {l : List Int} {m k : Nat} (h : k < m) : ((List.range m).drop k).flatMap (wrdF l) = u16B (wordR l (7 * k)) ++ ((List.range m).drop (k + 1)).flatMap (wrdF l) := by
  rw [List.drop_eq_getElem_cons (by rw [List.length_range]; exact h), List.flatMap_cons, List.getElem_range]
theorem word_rng (l : List Int) (i : Nat) : 0 ≤ wordR l i ∧ wordR l i ≤ 65535 := by
  have := cv_lt l i 7
  unfold wordR
  omega
theorem cv_digit (l : List Int) (i : Nat) : ∀ (n k : Nat), k < n → cv l i n / 4 ^ (n - 1 - k) % 4 = mkN l (i + k)
  | 0, k, h => absurd h (Nat.not_lt_zero _)
  | n + 1, k, h => by
    have h1 := mkN_le l (i + n)
    rcases Nat.lt_or_ge k n with h2 | h2
    · have h3 := cv_digit l i n k h2
      have e : n + 1 - 1 - k = (n - 1 - k) + 1 := by omega
      rw [e, Nat.pow_succ, Nat.mul_comm _ 4, ← Nat.div_div_eq_div_mul]
      show (4 * cv l i n + mkN l (i + n)) / 4 / 4 ^ (n - 1 - k) % 4 = _
      rw [show (4 * cv l i n + mkN l (i + n)) / 4 = cv l i n by omega, h3]
    · obtain rfl : k = n := by omega
      rw [show k + 1 - 1 - k = 0 by omega]
      show (4 * cv l i k + mkN l (i + k)) / 4 ^ 0 % 4 = _
      rw [Nat.pow_zero, Nat.div_one]
      omega
theorem and_3 (y : Nat) (h : y < 65536) : bits BinOp.and IntKind.u16 (y : Int) 3 = ((y % 4 : Nat) : Int) := by
  have e2 : (BitVec.ofInt 16 (y : Int)).toNat = y := by rw [BitVec.ofInt_natCast, BitVec.toNat_ofNat]; exact Nat.mod_eq_of_lt (by omega)
  show IntKind.u16.wrap ((BitVec.ofInt 16 (y : Int) &&& BitVec.ofInt 16 (3 : Int)).toNat : Int) = _
  rw [BitVec.toNat_and, e2, show (BitVec.ofInt 16 (3 : Int)).toNat = 2 ^ 2 - 1 from rfl, Nat.and_two_pow_sub_one_eq_mod, u16_mod]
  omega
theorem word_mark {l : List Int} {i : Nat} (h : i < l.length) : (wordR l (7 * (i / 7))).toNat / 2 ^ (12 - 2 * (i % 7)) % 4 = (markOf l[i]).toNat := by
  have h1 := cv_lt l (7 * (i / 7)) 7
  have e1 : (wordR l (7 * (i / 7))).toNat = 3 * 4 ^ 7 + cv l (7 * (i / 7)) 7 := by unfold wordR; omega
  have h2 := cv_digit l (7 * (i / 7)) 7 (i % 7) (by omega)
  rw [show 7 * (i / 7) + i % 7 = i by omega] at h2
  have h3 : mkN l i = (markOf l[i]).toNat := by unfold mkN; rw [dif_pos h]
  rw [← h3, ← h2, e1]
  have hk : i % 7 < 7 := by omega
  generalize i % 7 = k at hk
  generalize cv l (7 * (i / 7)) 7 = x at h1
  have hk' : k = 0 ∨ k = 1 ∨ k = 2 ∨ k = 3 ∨ k = 4 ∨ k = 5 ∨ k = 6 := by omega
  rcases hk' with rfl | rfl | rfl | rfl | rfl | rfl | rfl
  all_goals simp only [show (7 - 1 - 0 : Nat) = 6 from rfl, show (7 - 1 - 1 : Nat) = 5 from rfl, show (7 - 1 - 2 : Nat) = 4 from rfl, show (7 - 1 - 3 : Nat) = 3 from rfl, show (7 - 1 - 4 : Nat) = 2 from rfl, show (7 - 1 - 5 : Nat) = 1 from rfl, show (7 - 1 - 6 : Nat) = 0 from rfl]
  all_goals omega

set_option maxRecDepth 100000 in
set_option maxHeartbeats 20000000 in
theorem arrsC (J0 : Img) (M : List Res) (w : World) (q p9 : Nat) (x1 x2 : Int) (r : RS) (b : Res) (T : Pk → Prop) (hT : ∀ p, T p → PkOk p ∧ p.arrs.any badA = false ∧ 0 < p.arrs.length ∧ p.arrs.length ≤ 255 ∧ ∃ t, r = (u16B p.base ++ (u16B p.arrs.length ++ (u32B (p.ref * 256 + p.count) ++ (marksT p.arrs ((p.arrs.length + 6) / 7) ++ (p.arrs.flatMap farO ++ t)))), false)) (hl : r.1.length ≤ 2000) (hst : St J0 (b :: bk q 51 #[.int .i64 6, .int .u32 x1, .int .u32 x2, .int .u64 0, .int .u32 0, .int .u32 0, .int .u32 0, .slice none 0 0, .string ⟨#[]⟩, .slice none 0 0, .slice none 0 0, .int .u16 0, .int .u32 0, .int .u8 0, .slice none 0 0, .slice none 0 0] :: M) w) (hR : Rdr J0 p9 r b) :
    Calls Try.prog 63 #[.pointer (some ⟨q, 0, none⟩), .pointer (some ⟨p9, 0, none⟩)] w (ArrsOk J0 M T q p9 x1 x2) := by
  have HT := Lib.hid hT
  have HR := Lib.hid hR
  have HS := Lib.hid hst
  have HL := Lib.hid hl
  clear hT hR hst hl
  go_enter Try.func63, Try.ntmps63
  obtain ⟨hcA, hfA, hlA⟩ := Blk.all (HS.out.at 1 rfl)
  have HC := Lib.hid (rd_u16 (I := J0) p9 r b HS.out HR.out)
  go_wp2_with fail
  go_at_call 28
  refine HC.out.mono ?_
  clear HC HS HR hcA hfA hlA
  try clear hcB hfB hlB
  rintro e w1 ⟨_, _, _, rfl, _, hs, rfl, rfl, b, hR, rfl⟩
  obtain ⟨bs, hx⟩ : ∃ z, z = ((numL (cutS 2 r).1 : Nat) : Int) := ⟨_, rfl⟩
  obtain ⟨r1, hr⟩ : ∃ z, z = (cutS 2 r).2 := ⟨_, rfl⟩
  have hrng := nm_rng 2 r 2 (by decide)
  rw [← hx] at hrng ⊢
  rw [← hr] at hR
  obtain ⟨bsa, bsb⟩ := hrng
  have HL := Lib.hid (show r1.1.length ≤ 2000 from (by rw [hr]; exact Nat.le_trans (cutS_left 2 r) HL.out))
  replace bsb : bs ≤ 65535 := (by have h9 : ((256 ^ 2 : Nat) : Int) = 65536 := (by decide); omega)
  have HXbs := Lib.hid (And.intro hx hr)
  have HS := Lib.hid hs
  have HR := Lib.hid hR
  clear hx hr hs hR
  obtain ⟨hcA, hfA, hlA⟩ := Blk.all (HS.out.at 1 rfl)
  have hs9 : St J0 (b :: bk q 51 #[.int .i64 6, .int .u32 x1, .int .u32 x2, .int .u64 0, .int .u32 0, .int .u32 0, .int .u32 0, .slice none 0 0, .string ⟨#[]⟩, .slice none 0 0, .slice none 0 0, .int .u16 bs, .int .u32 0, .int .u8 0, .slice none 0 0, .slice none 0 0] :: M) ((w1).setCell ⟨q, 11, none⟩ (.int .u16 bs)) := (HS.out.swap1.set 11 (.int .u16 bs)).swap1
  have HS := Lib.hid hs9
  clear hs9
  obtain ⟨hcB, hfB, hlB⟩ := Blk.all (HS.out.at 1 rfl)
  have HC := Lib.hid (rd_u16 (I := J0) p9 r1 b HS.out HR.out)
  go_wp2_with fail
  go_at_call 28
  refine HC.out.mono ?_
  clear HC HS HR hcA hfA hlA
  try clear hcB hfB hlB
  rintro e w2 ⟨_, _, _, rfl, _, hs, rfl, rfl, b, hR, rfl⟩
  obtain ⟨n, hx⟩ : ∃ z, z = ((numL (cutS 2 r1).1 : Nat) : Int) := ⟨_, rfl⟩
  obtain ⟨r2, hr⟩ : ∃ z, z = (cutS 2 r1).2 := ⟨_, rfl⟩
  have hrng := nm_rng 2 r1 2 (by decide)
  rw [← hx] at hrng ⊢
  rw [← hr] at hR
  obtain ⟨na, nb⟩ := hrng
  have HL := Lib.hid (show r2.1.length ≤ 2000 from (by rw [hr]; exact Nat.le_trans (cutS_left 2 r1) HL.out))
  replace nb : n ≤ 65535 := (by have h9 : ((256 ^ 2 : Nat) : Int) = 65536 := (by decide); omega)
  have HXn := Lib.hid (And.intro hx hr)
  have HS := Lib.hid hs
  have HR := Lib.hid hR
  clear hx hr hs hR
  obtain ⟨hcA, hfA, hlA⟩ := Blk.all (HS.out.at 1 rfl)
  obtain ⟨N, rfl⟩ : ∃ N : Nat, n = (N : Int) := ⟨n.toNat, by omega⟩
  have HC := Lib.hid (rd_u32 (I := J0) p9 r2 b HS.out HR.out)
  go_wp2_with fail
  go_at_call 62
  refine HC.out.mono ?_
  clear HC HS HR hcA hfA hlA
  try clear hcB hfB hlB
  rintro e w3 ⟨_, _, _, rfl, _, hs, rfl, rfl, b, hR, rfl⟩
  obtain ⟨rv, hx⟩ : ∃ z, z = ((numL (cutS 4 r2).1 : Nat) : Int) := ⟨_, rfl⟩
  obtain ⟨r3, hr⟩ : ∃ z, z = (cutS 4 r2).2 := ⟨_, rfl⟩
  have hrng := nm_rng 4 r2 4 (by decide)
  rw [← hx] at hrng ⊢
  rw [← hr] at hR
  obtain ⟨rva, rvb⟩ := hrng
  have HL := Lib.hid (show r3.1.length ≤ 2000 from (by rw [hr]; exact Nat.le_trans (cutS_left 4 r2) HL.out))
  replace rvb : rv ≤ 4294967295 := (by have h9 : ((256 ^ 4 : Nat) : Int) = 4294967296 := (by decide); omega)
  have HXrv := Lib.hid (And.intro hx hr)
  have HS := Lib.hid hs
  have HR := Lib.hid hR
  clear hx hr hs hR
  obtain ⟨hcA, hfA, hlA⟩ := Blk.all (HS.out.at 1 rfl)
  have hu8 := u8_mod' rv
  have hrv : 0 ≤ rv / 256 ∧ rv / 256 ≤ 16777215 := by omega
  have hrc : 0 ≤ rv % 256 ∧ rv % 256 ≤ 255 := by omega
  obtain ⟨m, hm⟩ : ∃ m, m = (N + 6) / 7 := ⟨_, rfl⟩
  have hmi : ((N : Int) + 6) / 7 = (m : Int) := by omega
  have hml : m ≤ 9363 := by omega
  have HM := Lib.hid hm
  clear hm
  go_upto_region 6 with fail
  rw [hmi]
  have hs1 : St J0 (b :: bk q 51 #[.int .i64 6, .int .u32 x1, .int .u32 x2, .int .u64 0, .int .u32 0, .int .u32 0, .int .u32 0, .slice none 0 0, .string ⟨#[]⟩, .slice none 0 0, .slice none 0 0, .int .u16 bs, .int .u32 (rv / 256), .int .u8 (rv % 256), .slice none 0 0, .slice none 0 0] :: M) _ := (((HS.out.swap1.set 12 (.int .u32 (rv / 256))).set 13 (.int .u8 (rv % 256)))).swap1
  clear HS hcA hfA hlA hu8 hmi
  generalize World.setCell (World.setCell _ _ _) _ _ = W4 at hs1 ⊢
  have HS := Lib.hid hs1
  clear hs1
  have HF := Lib.hid (show ∀ p, T p → (p.base = bs ∧ p.ref = rv / 256 ∧ p.count = rv % 256) ∧ (p.arrs.any badA = false ∧ p.arrs.length = N) ∧ ∃ t, r3 = ((List.range m).flatMap (wrdF p.arrs) ++ (p.arrs.flatMap farO ++ t), false) from fun p hp => by
    obtain ⟨hok, hbad, hp0, hp1, t, hr⟩ := HT.out p hp
    obtain ⟨a1, hr⟩ := rd2_of HXbs.out hok.base hr
    obtain ⟨a2, hr⟩ := rd2_of HXn.out (by omega) hr
    have h1 := hok.ref
    have h2 := hok.count
    obtain ⟨a3, hr6⟩ := rd4_of HXrv.out (by omega) hr
    have h3 : N = p.arrs.length := by omega
    refine ⟨⟨a1.symm, by omega, by omega⟩, ⟨hbad, h3.symm⟩, t, ?_⟩
    rw [hr6, HM.out, h3, marks_range])
  have hsr := (HS.out.nil (e := 42) (size := 1)).up12
  clear HS
  have HS := Lib.hid hsr
  clear hsr
  go_loopw [6, 31] (fun cv iv wr => ∃ (k : Nat) (A1 : Option Addr) (c1 : Nat) (CH : List Int) (rL : RS) (b9 : Res), cv = .slice A1 k c1 ∧ iv = .int .i64 k ∧ k ≤ m ∧ Hid (St J0 (b9 :: bk q 51 #[.int .i64 6, .int .u32 x1, .int .u32 x2, .int .u64 0, .int .u32 0, .int .u32 0, .int .u32 0, .slice none 0 0, .string ⟨#[]⟩, .slice none 0 0, .slice none 0 0, .int .u16 bs, .int .u32 (rv / 256), .int .u8 (rv % 256), .slice none 0 0, .slice none 0 0] :: row 42 1 (.slice A1 k c1) k (flat u16C CH) :: M) wr ∧ Rdr J0 p9 rL b9 ∧ rL.1.length ≤ 2000 ∧ CH.length = k ∧ Rng CH ∧ ∀ p, T p → CH = (List.range k).map (fun j => wordR p.arrs (7 * j)) ∧ ∃ t, rL = (((List.range m).drop k).flatMap (wrdF p.arrs) ++ (p.arrs.flatMap farO ++ t), false))) (fun _ iv _ => m - (intOf iv).toNat)
  case atStart => exact ⟨0, none, 0, [], r3, b, rfl, rfl, Nat.zero_le _, Lib.hid ⟨HS.out, HR.out, HL.out, rfl, (fun x hx => by cases hx), fun p hp => ⟨rfl, (HF.out p hp).2.2⟩⟩⟩
  case round =>
    obtain ⟨k, A1, c1, CH, rL, b, rfl, rfl, hk, hh⟩ := hrel
    obtain ⟨hs, hR, hl9, hlen, hrn, ht⟩ := hh.out
    clear hh HS HR HL
    have HS := Lib.hid hs
    have HR := Lib.hid hR
    have HL := Lib.hid hl9
    have HIN := Lib.hid (And.intro hlen (And.intro hrn ht))
    clear hs hR hl9 hlen hrn ht
    by_cases hlt : k < m
    · have hlti : (k : Int) < (m : Int) := by omega
      have HBd := Lib.hid (rd_bad (I := J0) p9 rL b HS.out HR.out)
      obtain ⟨bd, hbd⟩ : ∃ x, x = rL.2 := ⟨_, rfl⟩
      rw [← hbd] at HBd
      have HBB := Lib.hid hbd
      clear hbd
      cases bd
      · skip
        go_upto_region 8 with (go_at_call 29; refine HBd.out.mono ?_; rintro e w3 ⟨rfl, hw⟩; subst hw)
        obtain ⟨hcA, hfA, hlA⟩ := Blk.all (HS.out.at 1 rfl)
        have HC := Lib.hid (rd_u16 (I := J0) p9 rL b HS.out HR.out)
        go_wp2_with fail
        go_at_call 28
        refine HC.out.mono ?_
        clear HC HS HR hcA hfA hlA
        try clear hcB hfB hlB
        rintro e w4 ⟨_, _, _, rfl, _, hs, rfl, rfl, b, hR, rfl⟩
        obtain ⟨ch, hx⟩ : ∃ z, z = ((numL (cutS 2 rL).1 : Nat) : Int) := ⟨_, rfl⟩
        obtain ⟨r4, hr⟩ : ∃ z, z = (cutS 2 rL).2 := ⟨_, rfl⟩
        have hrng := nm_rng 2 rL 2 (by decide)
        rw [← hx] at hrng ⊢
        rw [← hr] at hR
        obtain ⟨cha, chb⟩ := hrng
        have HL := Lib.hid (show r4.1.length ≤ 2000 from (by rw [hr]; exact Nat.le_trans (cutS_left 2 rL) HL.out))
        replace chb : ch ≤ 65535 := (by have h9 : ((256 ^ 2 : Nat) : Int) = 65536 := (by decide); omega)
        have HXch := Lib.hid (And.intro hx hr)
        have HS := Lib.hid hs
        have HR := Lib.hid hR
        clear hx hr hs hR
        obtain ⟨hcA, hfA, hlA⟩ := Blk.all (HS.out.at 1 rfl)
        have hsr := HS.out.litSrcV (P := Try.prog) (t := 44) (e := 42) (cs := #[.int .u16 ch]) (n := 1) (size := 1) rfl (by decide) Try.underlying44 (by simp [Value.oneCell'])
        have hsg := (HS.out.grow (.cells #[.int .u16 ch] 42)).swap2
        obtain ⟨i0, hi0, hz0, hz1, hz2⟩ := info_parts info42
        go_wp2_with (at_builtin; refine wpList_append_src _ rfl _ _ 44 44 rfl 0 42 i0 _ 1 2 Try.underlying44 hi0 hz0 hz1 hz2 rfl _ k (flat u16C CH) rfl hsg.head _ 1 _ rfl hsr (by unfold maxLen; omega) (by omega) (Nat.zero_le _) ?_)
        intro v' w5 hown' hgrow hat
        have hown2 : w5.ownsRow 0 42 1 v' (k + 1) (flat u16C (CH ++ [ch])) := by rw [flat_append]; exact hown'
        obtain ⟨A10, c10, rfl⟩ := own_form hown2
        have HS6 := Lib.hid (hsg.grown hgrow hown2 (by simpa using hat)).swap2
        clear HS hown' hown2 hgrow hat hsr hsg hcA hfA hlA
        go_wp2
        go_roundw
        case rel =>
          refine ⟨k + 1, A10, c10, CH ++ [ch], r4, b, rfl, by go_num, by omega, Lib.hid ⟨HS6.out, HR.out, HL.out, by rw [List.length_append, HIN.out.1]; rfl, ?_, fun p hp => ?_⟩⟩
          · intro x hx
            rcases List.mem_append.1 hx with hx | hx
            · exact HIN.out.2.1 x hx
            · rw [List.mem_singleton.1 hx]
              exact ⟨cha, chb⟩
          · obtain ⟨h1, t, h2⟩ := HIN.out.2.2 p hp
            rw [range_next hlt, List.append_assoc] at h2
            obtain ⟨a1, hr6⟩ := rd2_of HXch.out (word_rng _ _) h2
            refine ⟨?_, t, hr6⟩
            rw [List.range_succ, List.map_append, ← h1, a1]
            rfl
        case measure => simp [intOf]; omega
      · skip
        go_wp2_with (go_at_call 29; refine HBd.out.mono ?_; rintro e w3 ⟨rfl, hw⟩; subst hw)
        go_returns
        refine ⟨rfl, J0, bs, rv / 256, rv % 256, [], none, 0, b, rL, .refl J0, ?_, HR.out, ⟨bsa, bsb⟩, by omega, hrc, Nat.zero_le _, fun p hp => ?_⟩
        · exact (HS.out.dn12.drop.nil (e := 3) (size := 1)).up12
        · obtain ⟨h1, t, h2⟩ := HIN.out.2.2 p hp
          have h3 := HBB.out
          rw [h2] at h3
          cases h3
    · obtain rfl : k = m := by omega
      obtain ⟨J1, hle1, hs6, hcl⟩ := HS.out.dn12.freezeRow
      have HS9 := Lib.hid (hs6.nil (e := 3) (size := 1)).up12
      have HR9 := Lib.hid (HR.out.mono hle1)
      clear HS HR
      have HS := HS9
      have HR := HR9
      clear HS9 HR9
      have HCL := Lib.hid (And.intro hcl hle1)
      clear hs6 hcl hle1
      go_upto_region 11 with fail
      go_loopw [42] (fun iv wr => ∃ (i : Nat) (A2 : Option Addr) (c2 : Nat) (L : List Int) (rM : RS) (b9 : Res), iv = .int .i64 i ∧ i ≤ N ∧ Hid (St J1 (b9 :: bk q 51 #[.int .i64 6, .int .u32 x1, .int .u32 x2, .int .u64 0, .int .u32 0, .int .u32 0, .int .u32 0, .slice none 0 0, .string ⟨#[]⟩, .slice none 0 0, .slice none 0 0, .int .u16 bs, .int .u32 (rv / 256), .int .u8 (rv % 256), .slice A2 i c2, .slice none 0 0] :: row 3 1 (.slice A2 i c2) i (flat intC L) :: M) wr ∧ Rdr J1 p9 rM b9 ∧ rM.1.length ≤ 2000 ∧ L.length = i ∧ ∀ p, T p → L = p.arrs.take i ∧ ∃ t, rM = ((p.arrs.drop i).flatMap farO ++ t, false))) (fun iv _ => N - (intOf iv).toNat)
      case atStart => 
        refine ⟨0, none, 0, [], rL, b, rfl, Nat.zero_le _, Lib.hid ⟨HS.out, HR.out, HL.out, rfl, fun p hp => ⟨rfl, ?_⟩⟩⟩
        obtain ⟨h1, t, h2⟩ := HIN.out.2.2 p hp
        exact ⟨t, by rw [h2, List.drop_eq_nil_of_le (by rw [List.length_range]; omega)]; rfl⟩
      case round =>
        have HCH := Lib.hid (And.intro HIN.out.1 (And.intro HIN.out.2.1 (fun p hp => (HIN.out.2.2 p hp).1)))
        obtain ⟨i, A2, c2, L, rM, b, rfl, hi, hh⟩ := hrel
        obtain ⟨hs, hR, hl9, hlen, ht⟩ := hh.out
        clear hh HS HR HL HIN
        have HS := Lib.hid hs
        have HR := Lib.hid hR
        have HL := Lib.hid hl9
        have HIN := Lib.hid (And.intro hlen ht)
        clear hs hR hl9 hlen ht
        by_cases hlt2 : i < N
        · have hlti : (i : Int) < (N : Int) := by omega
          have HBd := Lib.hid (rd_bad (I := J1) p9 rM b HS.out HR.out)
          obtain ⟨bd, hbd⟩ : ∃ x, x = rM.2 := ⟨_, rfl⟩
          rw [← hbd] at HBd
          have HBB := Lib.hid hbd
          clear hbd
          cases bd
          · skip
            obtain ⟨j, hj⟩ : ∃ j, j = i / 7 := ⟨_, rfl⟩
            obtain ⟨e7, he⟩ : ∃ e, e = i % 7 := ⟨_, rfl⟩
            have hj7 : (i : Int) / 7 = (j : Int) := by omega
            have he7 : (i : Int) % 7 = (e7 : Int) := by omega
            have hjm : j < k := by have := HM.out; omega
            have hjmi : (j : Int) < (k : Int) := by omega
            have he6 : e7 ≤ 6 := by omega
            have HJE := Lib.hid (And.intro hj he)
            clear hj he
            obtain ⟨g, o, eA, hcell⟩ := flat_get (s := 1) (fun _ => rfl) HCL.out.1 (by rw [HCH.out.1]; omega) (by decide)
            subst eA
            have hch : wr.cell? ⟨g, o + j, none⟩ = some (.int .u16 (CH[j]'(by rw [HCH.out.1]; exact hjm))) := by
              have := hcell _ _ HS.out j (by rw [HCH.out.1]; exact hjm) 0 (by decide)
              simpa using this
            have hcr := HCH.out.2.1 (CH[j]'(by rw [HCH.out.1]; exact hjm)) (List.getElem_mem _)
            have hcp : ∀ p, T p → CH[j]'(by rw [HCH.out.1]; exact hjm) = wordR p.arrs (7 * j) := fun p hp => by
              have h1 := HCH.out.2.2 p hp
              simp only [h1, List.getElem_map, List.getElem_range]
            have HCP := Lib.hid hcp
            clear hcell hcp
            generalize CH[j]'(by rw [HCH.out.1]; exact hjm) = ch at hch hcr HCP
            obtain ⟨ch, rfl⟩ : ∃ c : Nat, ch = (c : Int) := ⟨_, (Int.toNat_of_nonneg hcr.1).symm⟩
            have hcr2 : ch ≤ 65535 := by omega
            obtain ⟨mk, hmk⟩ : ∃ m, m = ch / 2 ^ (12 - 2 * e7) % 4 := ⟨_, rfl⟩
            have hand : bits BinOp.and IntKind.u16 ((ch : Int) / 2 ^ (12 - 2 * e7)) 3 = (mk : Int) := by
              rw [show ((ch : Int) / 2 ^ (12 - 2 * e7)) = ((ch / 2 ^ (12 - 2 * e7) : Nat) : Int) by simp, hmk]
              exact and_3 _ (by have := Nat.div_le_self ch (2 ^ (12 - 2 * e7)); omega)
            have hmk4 : mk < 4 := by omega
            have hsh : ((12 : Int) - 2 * (e7 : Int)).toNat = 12 - 2 * e7 := by omega
            have hsh0 : (0 : Int) ≤ 12 - 2 * (e7 : Int) := by omega
            have HMK := Lib.hid hmk
            clear hmk hcr
            go_upto_region 16 with (go_at_call 29; refine HBd.out.mono ?_; rintro e w3 ⟨rfl, hw⟩; subst hw)
            obtain ⟨hcA, hfA, hlA⟩ := Blk.all (HS.out.at 1 rfl)
            rcases (show mk = 0 ∨ mk = 1 ∨ (mk = 2 ∨ mk = 3) by omega) with rfl | rfl | hmk23
            · skip
              go_upto_region 17 with fail
              have hsr := HS.out.litSrcV (P := Try.prog) (t := 48) (e := 3) (cs := #[.int .i64 65536]) (n := 1) (size := 1) rfl (by decide) Try.underlying48 (by simp [Value.oneCell'])
              have hsg := (HS.out.grow (.cells #[.int .i64 65536] 3)).swap2
              obtain ⟨i0, hi0, hz0, hz1, hz2⟩ := info_parts info3
              go_wp2_with (at_builtin; refine wpList_append_src _ rfl _ _ 48 48 rfl 0 3 i0 _ 1 8 Try.underlying48 hi0 hz0 hz1 hz2 rfl _ i (flat intC L) rfl hsg.head _ 1 _ rfl hsr (by unfold maxLen; omega) (by omega) (Nat.zero_le _) ?_)
              intro v' w5 hown' hgrow hat
              have hown2 : w5.ownsRow 0 3 1 v' (i + 1) (flat intC (L ++ [65536])) := by rw [flat_append]; exact hown'
              obtain ⟨A10, c10, rfl⟩ := own_form hown2
              have hs5 := hsg.grown hgrow hown2 (by simpa using hat)
              have HS6 := Lib.hid (show St J1 (b :: bk q 51 #[.int .i64 6, .int .u32 x1, .int .u32 x2, .int .u64 0, .int .u32 0, .int .u32 0, .int .u32 0, .slice none 0 0, .string ⟨#[]⟩, .slice none 0 0, .slice none 0 0, .int .u16 bs, .int .u32 (rv / 256), .int .u8 (rv % 256), .slice A10 (i + 1) c10, .slice none 0 0] :: row 3 1 (.slice A10 (i + 1) c10) (i + 1) (flat intC (L ++ [65536])) :: M) (w5.setCell ⟨q, 14, none⟩ (.slice A10 (i + 1) c10)) from ((hs5.swap1.set 14 (.slice A10 (i + 1) c10)).swap1.swap2))
              clear HS
              obtain ⟨hcq, hfq, hlq⟩ := Blk.all (hs5.at 1 rfl)
              clear hs5 hown' hown2 hgrow hat hsr hsg hcA hfA hlA
              go_wp2
              go_roundw
              case rel =>
                refine ⟨i + 1, A10, c10, L ++ [65536], rM, b, by go_num, by omega, Lib.hid ⟨HS6.out, HR.out, HL.out, by rw [List.length_append, HIN.out.1]; rfl, fun p hp => ?_⟩⟩
                obtain ⟨h1, t, h2⟩ := HIN.out.2 p hp
                have hpl := (HF.out p hp).2.1.2
                have hgi : i < p.arrs.length := by omega
                have hmk : (markOf p.arrs[i]).toNat = 0 := by rw [HMK.out, ← word_mark hgi, ← HJE.out.1, ← HJE.out.2, ← HCP.out p hp]; rfl
                have hmo := markOf_ok p.arrs[i]
                have hbd : badA p.arrs[i] = false := (List.any_eq_false.1 (HF.out p hp).2.1.1 _ (List.getElem_mem hgi)) |> (by simpa using ·)
                have htk : p.arrs.take (i + 1) = p.arrs.take i ++ [p.arrs[i]] := List.take_succ_eq_append_getElem hgi
                rw [List.drop_eq_getElem_cons hgi, List.flatMap_cons, List.append_assoc] at h2
                rw [htk, ← h1]
                generalize p.arrs[i] = a at hmk hbd h2 hmo
                have h3 : markOf a = 0 := by omega
                have h4 : a = 65536 := by
                  unfold markOf at h3
                  split at h3
                  · assumption
                  · split at h3 <;> omega
                subst h4
                exact ⟨rfl, t, h2⟩
              case measure => simp [intOf]; omega
            · skip
              go_upto_region 19 with fail
              clear hcA hfA hlA
              have HSS := Lib.hid (fun (M9 : List Res) (w' : World) (hm : bk q 51 #[.int .i64 6, .int .u32 x1, .int .u32 x2, .int .u64 0, .int .u32 0, .int .u32 0, .int .u32 0, .slice none 0 0, .string ⟨#[]⟩, .slice none 0 0, .slice none 0 0, .int .u16 bs, .int .u32 (rv / 256), .int .u8 (rv % 256), .slice A2 i c2, .slice none 0 0] ∈ M9) (hs : St J1 M9 w') => (show w'.cell? ⟨q, 14, none⟩ = some (.slice A2 i c2) from (Blk.all (hs.res _ hm)).1 14))
              refine wp_region_last (S := fun w' => w'.cell? ⟨q, 14, none⟩ = some (.slice A2 i c2)) (by kernel_rfl) (HSS.out _ _ (by simp) HS.out.drew) (fun hHeld => ?_)
              have hsd := HS.out.drew
              clear HS
              generalize World.drew _ = W3 at hsd hHeld ⊢
              refine wpAnyL_take (i := 0) 10 (oi := _) (v := ?_) rfl (by kernel_rfl) (by kernel_rfl) (by kernel_rfl) (by kernel_rfl) (fun _ _ _ h => h) (Or.inl ⟨by rfl, ?_⟩) (by assumption) ?_
              rotate_left
              · (intro w hSw; (try dsimp only at hSw); go_simp; try with_reducible rfl)
              try simp only [Act.put, List.getElem_toArray, List.getElem_cons_zero, List.getElem_cons_succ, List.setIfInBounds_toArray, List.set_cons_zero, List.set_cons_succ]
              refine wpAnyL_take (i := 1) 2 (oi := _) (v := ?_) rfl (by kernel_rfl) (by kernel_rfl) (by kernel_rfl) (by kernel_rfl) (fun _ _ _ h => h) (Or.inl ⟨by rfl, ?_⟩) (by assumption) ?_
              rotate_left
              · (intro w hSw; (try dsimp only at hSw); go_simp; try with_reducible rfl)
              try simp only [Act.put, List.getElem_toArray, List.getElem_cons_zero, List.getElem_cons_succ, List.setIfInBounds_toArray, List.set_cons_zero, List.set_cons_succ]
              refine wpAnyL_take (i := 2) 3 (oi := _) (v := ?_) rfl (by kernel_rfl) (by kernel_rfl) (by kernel_rfl) (by kernel_rfl) (fun _ _ _ h => h) (Or.inl ⟨by rfl, ?_⟩) (by assumption) ?_
              rotate_left
              · (intro w hSw; (try dsimp only at hSw); go_simp; try with_reducible rfl)
              try simp only [Act.put, List.getElem_toArray, List.getElem_cons_zero, List.getElem_cons_succ, List.setIfInBounds_toArray, List.set_cons_zero, List.set_cons_succ]
              refine wpAnyL_take (i := 3) 4 (oi := _) (v := ?_) rfl (by kernel_rfl) (by kernel_rfl) (by kernel_rfl) (by kernel_rfl) (fun _ _ _ h => h) (Or.inl ⟨by rfl, ?_⟩) (by assumption) ?_
              rotate_left
              · (intro w hSw; (try dsimp only at hSw); go_simp; try with_reducible rfl)
              try simp only [Act.put, List.getElem_toArray, List.getElem_cons_zero, List.getElem_cons_succ, List.setIfInBounds_toArray, List.set_cons_zero, List.set_cons_succ]
              refine wpAnyL_take (i := 4) 9 (oi := _) (v := ?_) rfl (by kernel_rfl) (by kernel_rfl) (by kernel_rfl) (by kernel_rfl) (fun _ _ _ h => h) (Or.inl ⟨by rfl, ?_⟩) (by assumption) ?_
              rotate_left
              · (intro w hSw; (try dsimp only at hSw); go_simp; try with_reducible rfl)
              try simp only [Act.put, List.getElem_toArray, List.getElem_cons_zero, List.getElem_cons_succ, List.setIfInBounds_toArray, List.set_cons_zero, List.set_cons_succ]
              refine wpAnyL_take (i := 5) 6 (oi := _) (v := ?_) rfl (by kernel_rfl) (by kernel_rfl) (by kernel_rfl) (by kernel_rfl) (fun _ _ _ h => h) (Or.inl ⟨by rfl, ?_⟩) (by assumption) ?_
              rotate_left
              · (intro w hSw; (try dsimp only at hSw); go_simp; try with_reducible rfl)
              try simp only [Act.put, List.getElem_toArray, List.getElem_cons_zero, List.getElem_cons_succ, List.setIfInBounds_toArray, List.set_cons_zero, List.set_cons_succ]
              have HC := Lib.hid (rd_u8 (I := J1) p9 rM b hsd HR.out)
              refine wpAnyL_one (i := 6) (o := _) (by kernel_rfl) rfl (fun K hK => ?_)
              go_simp
              try clear hHeld
              refine HC.out.mono ?_
              clear HC HR hsd
              rintro e w5 ⟨_, _, _, rfl, _, hsd, rfl, rfl, b, hR, rfl⟩
              obtain ⟨y, hx⟩ : ∃ z, z = ((numL (cutS 1 rM).1 : Nat) : Int) := ⟨_, rfl⟩
              obtain ⟨r5, hr⟩ : ∃ z, z = (cutS 1 rM).2 := ⟨_, rfl⟩
              have hrng := nm_rng 1 rM 1 (by decide)
              rw [← hx] at hrng ⊢
              rw [← hr] at hR
              obtain ⟨ya, yb⟩ := hrng
              have HL := Lib.hid (show r5.1.length ≤ 2000 from (by rw [hr]; exact Nat.le_trans (cutS_left 1 rM) HL.out))
              replace yb : y ≤ 255 := (by have h9 : ((256 ^ 1 : Nat) : Int) = 256 := (by decide); omega)
              have HXy := Lib.hid (And.intro hx hr)
              have HR := Lib.hid hR
              clear hx hr hR
              refine hK.out _ _ (HSS.out _ _ (by simp) hsd) (fun hHeld => ?_)
              clear hK K
              try simp only [Act.put, List.getElem_toArray, List.getElem_cons_zero, List.getElem_cons_succ, List.setIfInBounds_toArray, List.set_cons_zero, List.set_cons_succ]
              have hwy : IntKind.i64.wrap y = y := wrap_i64 (by omega) (by omega)
              refine wpAnyL_take (i := 7) 8 (oi := _) (v := ?_) rfl (by kernel_rfl) (by kernel_rfl) (by kernel_rfl) (by kernel_rfl) (fun _ _ _ h => h) (Or.inl ⟨by rfl, ?_⟩) (by assumption) ?_
              rotate_left
              · (intro w hSw; (try dsimp only at hSw); go_simp; try with_reducible rfl)
              try simp only [Act.put, List.getElem_toArray, List.getElem_cons_zero, List.getElem_cons_succ, List.setIfInBounds_toArray, List.set_cons_zero, List.set_cons_succ]
              clear hwy
              refine wpAnyL_one (i := 8) (o := _) (by kernel_rfl) rfl (fun K hK => ?_)
              go_simp
              have hsr := hsd.litSrcV (P := Try.prog) (t := 48) (e := 3) (cs := #[.int .i64 y]) (n := 1) (size := 1) rfl (by decide) Try.underlying48 (by simp [Value.oneCell'])
              have hsg := (hsd.grow (.cells #[.int .i64 y] 3)).swap2
              try clear hHeld
              refine hK.out _ _ (HSS.out _ _ (by simp) hsg) (fun hHeld => ?_)
              clear hK K
              try simp only [Act.put, List.getElem_toArray, List.getElem_cons_zero, List.getElem_cons_succ, List.setIfInBounds_toArray, List.set_cons_zero, List.set_cons_succ]
              obtain ⟨i0, hi0, hz0, hz1, hz2⟩ := info_parts info3
              refine wpAnyL_one (i := 9) (o := _) (by kernel_rfl) rfl (fun K hK => ?_)
              refine step_append_src _ (by rfl) _ _ 48 48 (by rfl) 0 3 i0 (.int .i64 0) 1 8 Try.underlying48 hi0 hz0 hz1 hz2 rfl _ i (flat intC L) (by rfl) hsg.head _ 1 _ (by rfl) hsr (by unfold maxLen; omega) (by omega) (Nat.zero_le _) ?_
              intro v' w5 hown' hgrow hat
              have hown2 : w5.ownsRow 0 3 1 v' (i + 1) (flat intC (L ++ [y])) := by rw [flat_append]; exact hown'
              obtain ⟨A10, c10, rfl⟩ := own_form hown2
              have hs5 := hsg.grown hgrow hown2 (by simpa using hat)
              try clear hHeld
              refine hK.out _ _ (HSS.out _ _ (by simp) hs5) (fun hHeld => ?_)
              clear hK K
              try simp only [Act.put, List.getElem_toArray, List.getElem_cons_zero, List.getElem_cons_succ, List.setIfInBounds_toArray, List.set_cons_zero, List.set_cons_succ]
              refine wpAnyL_take (i := 10) 11 (oi := _) (v := ?_) rfl (by kernel_rfl) (by kernel_rfl) (by kernel_rfl) (by kernel_rfl) (fun _ _ _ h => h) (Or.inl ⟨by rfl, ?_⟩) (by assumption) ?_
              rotate_left
              · (intro w hSw; (try dsimp only at hSw); go_simp; try with_reducible rfl)
              try simp only [Act.put, List.getElem_toArray, List.getElem_cons_zero, List.getElem_cons_succ, List.setIfInBounds_toArray, List.set_cons_zero, List.set_cons_succ]
              refine wpAnyL_take (i := 11) 12 (oi := _) (v := ?_) rfl (by kernel_rfl) (by kernel_rfl) (by kernel_rfl) (by kernel_rfl) (fun _ _ _ h => h) (Or.inl ⟨by rfl, ?_⟩) (by assumption) ?_
              rotate_left
              · (intro w hSw; (try dsimp only at hSw); go_simp; try with_reducible rfl)
              try simp only [Act.put, List.getElem_toArray, List.getElem_cons_zero, List.getElem_cons_succ, List.setIfInBounds_toArray, List.set_cons_zero, List.set_cons_succ]
              have HS6 := Lib.hid (show St J1 (b :: bk q 51 #[.int .i64 6, .int .u32 x1, .int .u32 x2, .int .u64 0, .int .u32 0, .int .u32 0, .int .u32 0, .slice none 0 0, .string ⟨#[]⟩, .slice none 0 0, .slice none 0 0, .int .u16 bs, .int .u32 (rv / 256), .int .u8 (rv % 256), .slice A10 (i + 1) c10, .slice none 0 0] :: row 3 1 (.slice A10 (i + 1) c10) (i + 1) (flat intC (L ++ [y])) :: M) (w5.setCell ⟨q, 14, none⟩ (.slice A10 (i + 1) c10)) from ((hs5.swap1.set 14 (.slice A10 (i + 1) c10)).swap1.swap2))
              obtain ⟨hp, fp, lp⟩ := Blk.all (hs5.at 1 rfl)
              refine wpAnyL_last (i := 12) (o := _) (by kernel_rfl) rfl (by kernel_rfl) (by kernel_rfl) (fun K hK => ?_)
              go_simp
              try clear hHeld
              refine hK.out _ _ ?_
              clear hK K
              try simp only [Act.put, List.getElem_toArray, List.getElem_cons_zero, List.getElem_cons_succ, List.setIfInBounds_toArray, List.set_cons_zero, List.set_cons_succ]
              clear hs5 hown' hown2 hgrow hat hsr hsg hsd hp fp lp
              go_wp2
              go_roundw
              case rel =>
                refine ⟨i + 1, A10, c10, L ++ [y], r5, b, by go_num, by omega, Lib.hid ⟨HS6.out, HR.out, HL.out, by rw [List.length_append, HIN.out.1]; rfl, fun p hp => ?_⟩⟩
                obtain ⟨h1, t, h2⟩ := HIN.out.2 p hp
                have hpl := (HF.out p hp).2.1.2
                have hgi : i < p.arrs.length := by omega
                have hmk : (markOf p.arrs[i]).toNat = 1 := by rw [HMK.out, ← word_mark hgi, ← HJE.out.1, ← HJE.out.2, ← HCP.out p hp]; rfl
                have hmo := markOf_ok p.arrs[i]
                have hbd : badA p.arrs[i] = false := (List.any_eq_false.1 (HF.out p hp).2.1.1 _ (List.getElem_mem hgi)) |> (by simpa using ·)
                have htk : p.arrs.take (i + 1) = p.arrs.take i ++ [p.arrs[i]] := List.take_succ_eq_append_getElem hgi
                rw [List.drop_eq_getElem_cons hgi, List.flatMap_cons, List.append_assoc] at h2
                rw [htk, ← h1]
                generalize p.arrs[i] = a at hmk hbd h2 hmo
                have h3 : markOf a = 1 := by omega
                have h4 : 0 ≤ a ∧ a ≤ 255 := by
                  unfold markOf at h3
                  split at h3
                  · omega
                  · split at h3
                    · assumption
                    · omega
                unfold farO at h2
                rw [if_pos h3, show a % 256 = a by omega] at h2
                obtain ⟨a1, hr6⟩ := rd1_of HXy.out h4 h2
                rw [a1]
                exact ⟨rfl, t, hr6⟩
              case measure => simp [intOf]; omega
            · have hne0 : ((mk : Int) == 0) = false := by rw [beq_eq_false_iff_ne]; omega
              have hne1 : ((mk : Int) == 1) = false := by rw [beq_eq_false_iff_ne]; omega
              go_upto_region 15 with fail
              clear hcA hfA hlA
              have HSS := Lib.hid (fun (M9 : List Res) (w' : World) (hm : bk q 51 #[.int .i64 6, .int .u32 x1, .int .u32 x2, .int .u64 0, .int .u32 0, .int .u32 0, .int .u32 0, .slice none 0 0, .string ⟨#[]⟩, .slice none 0 0, .slice none 0 0, .int .u16 bs, .int .u32 (rv / 256), .int .u8 (rv % 256), .slice A2 i c2, .slice none 0 0] ∈ M9) (hs : St J1 M9 w') => (show w'.cell? ⟨q, 14, none⟩ = some (.slice A2 i c2) from (Blk.all (hs.res _ hm)).1 14))
              refine wp_region_last (S := fun w' => w'.cell? ⟨q, 14, none⟩ = some (.slice A2 i c2)) (by kernel_rfl) (HSS.out _ _ (by simp) HS.out.drew) (fun hHeld => ?_)
              have hsd := HS.out.drew
              clear HS
              generalize World.drew _ = W3 at hsd hHeld ⊢
              refine wpAnyL_take (i := 0) 11 (oi := _) (v := ?_) rfl (by kernel_rfl) (by kernel_rfl) (by kernel_rfl) (by kernel_rfl) (fun _ _ _ h => h) (Or.inl ⟨by rfl, ?_⟩) (by assumption) ?_
              rotate_left
              · (intro w hSw; (try dsimp only at hSw); go_simp; try with_reducible rfl)
              try simp only [Act.put, List.getElem_toArray, List.getElem_cons_zero, List.getElem_cons_succ, List.setIfInBounds_toArray, List.set_cons_zero, List.set_cons_succ]
              refine wpAnyL_take (i := 1) 2 (oi := _) (v := ?_) rfl (by kernel_rfl) (by kernel_rfl) (by kernel_rfl) (by kernel_rfl) (fun _ _ _ h => h) (Or.inl ⟨by rfl, ?_⟩) (by assumption) ?_
              rotate_left
              · (intro w hSw; (try dsimp only at hSw); go_simp; try with_reducible rfl)
              try simp only [Act.put, List.getElem_toArray, List.getElem_cons_zero, List.getElem_cons_succ, List.setIfInBounds_toArray, List.set_cons_zero, List.set_cons_succ]
              refine wpAnyL_take (i := 2) 3 (oi := _) (v := ?_) rfl (by kernel_rfl) (by kernel_rfl) (by kernel_rfl) (by kernel_rfl) (fun _ _ _ h => h) (Or.inl ⟨by rfl, ?_⟩) (by assumption) ?_
              rotate_left
              · (intro w hSw; (try dsimp only at hSw); go_simp; try with_reducible rfl)
              try simp only [Act.put, List.getElem_toArray, List.getElem_cons_zero, List.getElem_cons_succ, List.setIfInBounds_toArray, List.set_cons_zero, List.set_cons_succ]
              refine wpAnyL_take (i := 3) 4 (oi := _) (v := ?_) rfl (by kernel_rfl) (by kernel_rfl) (by kernel_rfl) (by kernel_rfl) (fun _ _ _ h => h) (Or.inl ⟨by rfl, ?_⟩) (by assumption) ?_
              rotate_left
              · (intro w hSw; (try dsimp only at hSw); go_simp; try with_reducible rfl)
              try simp only [Act.put, List.getElem_toArray, List.getElem_cons_zero, List.getElem_cons_succ, List.setIfInBounds_toArray, List.set_cons_zero, List.set_cons_succ]
              refine wpAnyL_take (i := 4) 10 (oi := _) (v := ?_) rfl (by kernel_rfl) (by kernel_rfl) (by kernel_rfl) (by kernel_rfl) (fun _ _ _ h => h) (Or.inl ⟨by rfl, ?_⟩) (by assumption) ?_
              rotate_left
              · (intro w hSw; (try dsimp only at hSw); go_simp; try with_reducible rfl)
              try simp only [Act.put, List.getElem_toArray, List.getElem_cons_zero, List.getElem_cons_succ, List.setIfInBounds_toArray, List.set_cons_zero, List.set_cons_succ]
              refine wpAnyL_take (i := 5) 6 (oi := _) (v := ?_) rfl (by kernel_rfl) (by kernel_rfl) (by kernel_rfl) (by kernel_rfl) (fun _ _ _ h => h) (Or.inl ⟨by rfl, ?_⟩) (by assumption) ?_
              rotate_left
              · (intro w hSw; (try dsimp only at hSw); go_simp; try with_reducible rfl)
              try simp only [Act.put, List.getElem_toArray, List.getElem_cons_zero, List.getElem_cons_succ, List.setIfInBounds_toArray, List.set_cons_zero, List.set_cons_succ]
              have HC := Lib.hid (rd_u16 (I := J1) p9 rM b hsd HR.out)
              refine wpAnyL_one (i := 6) (o := _) (by kernel_rfl) rfl (fun K hK => ?_)
              go_simp
              try clear hHeld
              refine HC.out.mono ?_
              clear HC HR hsd
              rintro e w6 ⟨_, _, _, rfl, _, hsd, rfl, rfl, b, hR, rfl⟩
              obtain ⟨y, hx⟩ : ∃ z, z = ((numL (cutS 2 rM).1 : Nat) : Int) := ⟨_, rfl⟩
              obtain ⟨r6, hr⟩ : ∃ z, z = (cutS 2 rM).2 := ⟨_, rfl⟩
              have hrng := nm_rng 2 rM 2 (by decide)
              rw [← hx] at hrng ⊢
              rw [← hr] at hR
              obtain ⟨ya, yb⟩ := hrng
              have HL := Lib.hid (show r6.1.length ≤ 2000 from (by rw [hr]; exact Nat.le_trans (cutS_left 2 rM) HL.out))
              replace yb : y ≤ 65535 := (by have h9 : ((256 ^ 2 : Nat) : Int) = 65536 := (by decide); omega)
              have HXy := Lib.hid (And.intro hx hr)
              have HR := Lib.hid hR
              clear hx hr hR
              refine hK.out _ _ (HSS.out _ _ (by simp) hsd) (fun hHeld => ?_)
              clear hK K
              try simp only [Act.put, List.getElem_toArray, List.getElem_cons_zero, List.getElem_cons_succ, List.setIfInBounds_toArray, List.set_cons_zero, List.set_cons_succ]
              obtain ⟨z, hz⟩ : ∃ z, IntKind.i16.wrap y = z := ⟨_, rfl⟩
              have hzr := i16_rng y
              rw [hz] at hzr
              obtain ⟨hz1', hz2'⟩ := hzr
              have HZ := Lib.hid hz
              have hwy : IntKind.i64.wrap z = z := wrap_i64 (by omega) (by omega)
              refine wpAnyL_take (i := 7) 8 (oi := _) (v := ?_) rfl (by kernel_rfl) (by kernel_rfl) (by kernel_rfl) (by kernel_rfl) (fun _ _ _ h => h) (Or.inl ⟨by rfl, ?_⟩) (by assumption) ?_
              rotate_left
              · (intro w hSw; (try dsimp only at hSw); go_simp; try with_reducible rfl)
              try simp only [Act.put, List.getElem_toArray, List.getElem_cons_zero, List.getElem_cons_succ, List.setIfInBounds_toArray, List.set_cons_zero, List.set_cons_succ]
              refine wpAnyL_take (i := 8) 9 (oi := _) (v := ?_) rfl (by kernel_rfl) (by kernel_rfl) (by kernel_rfl) (by kernel_rfl) (fun _ _ _ h => h) (Or.inl ⟨by rfl, ?_⟩) (by assumption) ?_
              rotate_left
              · (intro w hSw; (try dsimp only at hSw); go_simp; try with_reducible rfl)
              try simp only [Act.put, List.getElem_toArray, List.getElem_cons_zero, List.getElem_cons_succ, List.setIfInBounds_toArray, List.set_cons_zero, List.set_cons_succ]
              clear hwy
              clear hz
              refine wpAnyL_one (i := 9) (o := _) (by kernel_rfl) rfl (fun K hK => ?_)
              go_simp
              have hsr := hsd.litSrcV (P := Try.prog) (t := 48) (e := 3) (cs := #[.int .i64 z]) (n := 1) (size := 1) rfl (by decide) Try.underlying48 (by simp [Value.oneCell'])
              have hsg := (hsd.grow (.cells #[.int .i64 z] 3)).swap2
              try clear hHeld
              refine hK.out _ _ (HSS.out _ _ (by simp) hsg) (fun hHeld => ?_)
              clear hK K
              try simp only [Act.put, List.getElem_toArray, List.getElem_cons_zero, List.getElem_cons_succ, List.setIfInBounds_toArray, List.set_cons_zero, List.set_cons_succ]
              obtain ⟨i0, hi0, hz0, hz1, hz2⟩ := info_parts info3
              refine wpAnyL_one (i := 10) (o := _) (by kernel_rfl) rfl (fun K hK => ?_)
              refine step_append_src _ (by rfl) _ _ 48 48 (by rfl) 0 3 i0 (.int .i64 0) 1 8 Try.underlying48 hi0 hz0 hz1 hz2 rfl _ i (flat intC L) (by rfl) hsg.head _ 1 _ (by rfl) hsr (by unfold maxLen; omega) (by omega) (Nat.zero_le _) ?_
              intro v' w5 hown' hgrow hat
              have hown2 : w5.ownsRow 0 3 1 v' (i + 1) (flat intC (L ++ [z])) := by rw [flat_append]; exact hown'
              obtain ⟨A10, c10, rfl⟩ := own_form hown2
              have hs5 := hsg.grown hgrow hown2 (by simpa using hat)
              try clear hHeld
              refine hK.out _ _ (HSS.out _ _ (by simp) hs5) (fun hHeld => ?_)
              clear hK K
              try simp only [Act.put, List.getElem_toArray, List.getElem_cons_zero, List.getElem_cons_succ, List.setIfInBounds_toArray, List.set_cons_zero, List.set_cons_succ]
              refine wpAnyL_take (i := 11) 12 (oi := _) (v := ?_) rfl (by kernel_rfl) (by kernel_rfl) (by kernel_rfl) (by kernel_rfl) (fun _ _ _ h => h) (Or.inl ⟨by rfl, ?_⟩) (by assumption) ?_
              rotate_left
              · (intro w hSw; (try dsimp only at hSw); go_simp; try with_reducible rfl)
              try simp only [Act.put, List.getElem_toArray, List.getElem_cons_zero, List.getElem_cons_succ, List.setIfInBounds_toArray, List.set_cons_zero, List.set_cons_succ]
              refine wpAnyL_take (i := 12) 13 (oi := _) (v := ?_) rfl (by kernel_rfl) (by kernel_rfl) (by kernel_rfl) (by kernel_rfl) (fun _ _ _ h => h) (Or.inl ⟨by rfl, ?_⟩) (by assumption) ?_
              rotate_left
              · (intro w hSw; (try dsimp only at hSw); go_simp; try with_reducible rfl)
              try simp only [Act.put, List.getElem_toArray, List.getElem_cons_zero, List.getElem_cons_succ, List.setIfInBounds_toArray, List.set_cons_zero, List.set_cons_succ]
              have HS6 := Lib.hid (show St J1 (b :: bk q 51 #[.int .i64 6, .int .u32 x1, .int .u32 x2, .int .u64 0, .int .u32 0, .int .u32 0, .int .u32 0, .slice none 0 0, .string ⟨#[]⟩, .slice none 0 0, .slice none 0 0, .int .u16 bs, .int .u32 (rv / 256), .int .u8 (rv % 256), .slice A10 (i + 1) c10, .slice none 0 0] :: row 3 1 (.slice A10 (i + 1) c10) (i + 1) (flat intC (L ++ [z])) :: M) (w5.setCell ⟨q, 14, none⟩ (.slice A10 (i + 1) c10)) from ((hs5.swap1.set 14 (.slice A10 (i + 1) c10)).swap1.swap2))
              obtain ⟨hp, fp, lp⟩ := Blk.all (hs5.at 1 rfl)
              refine wpAnyL_last (i := 13) (o := _) (by kernel_rfl) rfl (by kernel_rfl) (by kernel_rfl) (fun K hK => ?_)
              go_simp
              try clear hHeld
              refine hK.out _ _ ?_
              clear hK K
              try simp only [Act.put, List.getElem_toArray, List.getElem_cons_zero, List.getElem_cons_succ, List.setIfInBounds_toArray, List.set_cons_zero, List.set_cons_succ]
              clear hs5 hown' hown2 hgrow hat hsr hsg hsd hp fp lp
              go_wp2
              go_roundw
              case rel =>
                refine ⟨i + 1, A10, c10, L ++ [z], r6, b, by go_num, by omega, Lib.hid ⟨HS6.out, HR.out, HL.out, by rw [List.length_append, HIN.out.1]; rfl, fun p hp => ?_⟩⟩
                obtain ⟨h1, t, h2⟩ := HIN.out.2 p hp
                have hpl := (HF.out p hp).2.1.2
                have hgi : i < p.arrs.length := by omega
                have hmk : (markOf p.arrs[i]).toNat = mk := by rw [HMK.out, ← word_mark hgi, ← HJE.out.1, ← HJE.out.2, ← HCP.out p hp]; rfl
                have hmo := markOf_ok p.arrs[i]
                have hbd : badA p.arrs[i] = false := (List.any_eq_false.1 (HF.out p hp).2.1.1 _ (List.getElem_mem hgi)) |> (by simpa using ·)
                have htk : p.arrs.take (i + 1) = p.arrs.take i ++ [p.arrs[i]] := List.take_succ_eq_append_getElem hgi
                rw [List.drop_eq_getElem_cons hgi, List.flatMap_cons, List.append_assoc] at h2
                rw [htk, ← h1]
                generalize p.arrs[i] = a at hmk hbd h2 hmo
                have h3 : markOf a = 2 := by omega
                have h5 : ¬ a = 65536 := by intro h; subst h; unfold markOf at h3; simp at h3
                have h4 : -32768 ≤ a ∧ a ≤ 32767 := bad_no hbd h5
                unfold farO at h2
                rw [if_neg (by omega), if_pos h3] at h2
                obtain ⟨a1, hr6⟩ := rd2_of HXy.out (by omega) h2
                rw [← HZ.out, a1, i16_back h4]
                exact ⟨rfl, t, hr6⟩
              case measure => simp [intOf]; omega
          · skip
            go_wp2_with (go_at_call 29; refine HBd.out.mono ?_; rintro e w3 ⟨rfl, hw⟩; subst hw)
            go_returns
            refine ⟨rfl, J1, bs, rv / 256, rv % 256, L, A2, c2, b, rM, HCL.out.2, ?_, HR.out, ⟨bsa, bsb⟩, by omega, hrc, ?_, fun p hp => ?_⟩
            · rw [HIN.out.1]; exact HS.out
            · rw [HIN.out.1]; omega
            · obtain ⟨h1, t, h2⟩ := HIN.out.2 p hp
              have h3 := HBB.out
              rw [h2] at h3
              cases h3
        · obtain rfl : i = N := by omega
          go_wp2
          go_returns
          refine ⟨rfl, J1, bs, rv / 256, rv % 256, L, A2, c2, b, rM, HCL.out.2, ?_, HR.out, ⟨bsa, bsb⟩, by omega, hrc, ?_, fun p hp => ?_⟩
          · rw [HIN.out.1]; exact HS.out
          · rw [HIN.out.1]; omega
          · obtain ⟨h1, t, h2⟩ := HIN.out.2 p hp
            have h3 := HF.out p hp
            refine ⟨h3.1.1, h3.1.2.1, h3.1.2.2, ?_⟩
            rw [h1, ← h3.2.1.2, List.take_length]
end Go.Proofs.Ytddopbbmgpnjjaa
namespace Go.Proofs.Ytddopbbmgpnjjaa
open Go.RowKit
set_option linter.unusedSimpArgs false

set_option maxRecDepth 100000 in
set_option maxHeartbeats 20000000 in
theorem read6 (J0 : Img) (M : List Res) (w : World) (f s : Int) (p9 : Nat) (r : RS) (b : Res) (T : Pk → Prop) (hT : ∀ p, T p → Good p ∧ PkOk p ∧ p.kind = 6 ∧ r = (evenL (bodyL p), false)) (hk : kindP f s = 6) (hf : 0 ≤ f ∧ f ≤ 255) (hl : r.1.length ≤ 2000) (hst : St J0 (b :: M) w) (hR : Rdr J0 p9 r b) :
    Calls Try.prog 30 #[.int .u8 f, .int .u8 s, .pointer (some ⟨p9, 0, none⟩)] w (RdOk J0 M T) := by
  have HT := Lib.hid hT
  have HK := kindC f s (w.alloc (.cells #[.int .i64 0, .int .u32 0, .int .u32 0, .int .u64 0, .int .u32 0, .int .u32 0, .int .u32 0, .slice none 0 0, .string ⟨#[]⟩, .slice none 0 0, .slice none 0 0, .int .u16 0, .int .u32 0, .int .u8 0, .slice none 0 0, .slice none 0 0] 51)) hf
  rw [hk] at HK
  have HK := Lib.hid HK
  have HR := Lib.hid hR
  have hs1 := (hst.alloc 51 #[.int .i64 0, .int .u32 0, .int .u32 0, .int .u64 0, .int .u32 0, .int .u32 0, .int .u32 0, .slice none 0 0, .string ⟨#[]⟩, .slice none 0 0, .slice none 0 0, .int .u16 0, .int .u32 0, .int .u8 0, .slice none 0 0, .slice none 0 0]).swap1
  obtain ⟨q, hq⟩ : ∃ q, q = w.heap.size := ⟨_, rfl⟩
  rw [← hq] at hs1
  have HL := Lib.hid hl
  clear hT hk hR hst hl
  obtain ⟨fs, hd⟩ := st51D
  go_enter Try.func30, Try.ntmps30
  go_upto_region 1 with fail
  rw [← hq]
  clear hq
  generalize World.alloc w _ = W at hs1 HK ⊢
  have HS := Lib.hid hs1
  clear hs1
  obtain ⟨hcA, hfA, hlA⟩ := Blk.all (HS.out.at 1 rfl)
  go_wp2_with fail
  go_at_call 61
  refine HK.out.mono ?_
  clear HK
  rintro e w0 ⟨rfl, hw⟩
  subst hw
  have hs9 : St J0 (b :: bk q 51 #[.int .i64 6, .int .u32 0, .int .u32 0, .int .u64 0, .int .u32 0, .int .u32 0, .int .u32 0, .slice none 0 0, .string ⟨#[]⟩, .slice none 0 0, .slice none 0 0, .int .u16 0, .int .u32 0, .int .u8 0, .slice none 0 0, .slice none 0 0] :: M) ((W).setCell ⟨q, 0, none⟩ (.int .i64 6)) := (HS.out.swap1.set 0 (.int .i64 6)).swap1
  have HS := Lib.hid hs9
  clear hs9
  obtain ⟨hcB, hfB, hlB⟩ := Blk.all (HS.out.at 1 rfl)
  have HC := Lib.hid (rd_u32 (I := J0) p9 r b HS.out HR.out)
  go_wp2_with fail
  go_at_call 62
  refine HC.out.mono ?_
  clear HC HS HR hcA hfA hlA
  try clear hcB hfB hlB
  rintro e w1 ⟨_, _, _, rfl, _, hs, rfl, rfl, b, hR, rfl⟩
  obtain ⟨x1, hx⟩ : ∃ z, z = ((numL (cutS 4 r).1 : Nat) : Int) := ⟨_, rfl⟩
  obtain ⟨r1, hr⟩ : ∃ z, z = (cutS 4 r).2 := ⟨_, rfl⟩
  have hrng := nm_rng 4 r 4 (by decide)
  rw [← hx] at hrng ⊢
  rw [← hr] at hR
  obtain ⟨x1a, x1b⟩ := hrng
  have HL := Lib.hid (show r1.1.length ≤ 2000 from (by rw [hr]; exact Nat.le_trans (cutS_left 4 r) HL.out))
  replace x1b : x1 ≤ 4294967295 := (by have h9 : ((256 ^ 4 : Nat) : Int) = 4294967296 := (by decide); omega)
  have HXx1 := Lib.hid (And.intro hx hr)
  have HS := Lib.hid hs
  have HR := Lib.hid hR
  clear hx hr hs hR
  obtain ⟨hcA, hfA, hlA⟩ := Blk.all (HS.out.at 1 rfl)
  have hs9 : St J0 (b :: bk q 51 #[.int .i64 6, .int .u32 x1, .int .u32 0, .int .u64 0, .int .u32 0, .int .u32 0, .int .u32 0, .slice none 0 0, .string ⟨#[]⟩, .slice none 0 0, .slice none 0 0, .int .u16 0, .int .u32 0, .int .u8 0, .slice none 0 0, .slice none 0 0] :: M) ((w1).setCell ⟨q, 1, none⟩ (.int .u32 x1)) := (HS.out.swap1.set 1 (.int .u32 x1)).swap1
  have HS := Lib.hid hs9
  clear hs9
  obtain ⟨hcB, hfB, hlB⟩ := Blk.all (HS.out.at 1 rfl)
  have HC := Lib.hid (rd_u32 (I := J0) p9 r1 b HS.out HR.out)
  go_wp2_with fail
  go_at_call 62
  refine HC.out.mono ?_
  clear HC HS HR hcA hfA hlA
  try clear hcB hfB hlB
  rintro e w2 ⟨_, _, _, rfl, _, hs, rfl, rfl, b, hR, rfl⟩
  obtain ⟨x2, hx⟩ : ∃ z, z = ((numL (cutS 4 r1).1 : Nat) : Int) := ⟨_, rfl⟩
  obtain ⟨r2, hr⟩ : ∃ z, z = (cutS 4 r1).2 := ⟨_, rfl⟩
  have hrng := nm_rng 4 r1 4 (by decide)
  rw [← hx] at hrng ⊢
  rw [← hr] at hR
  obtain ⟨x2a, x2b⟩ := hrng
  have HL := Lib.hid (show r2.1.length ≤ 2000 from (by rw [hr]; exact Nat.le_trans (cutS_left 4 r1) HL.out))
  replace x2b : x2 ≤ 4294967295 := (by have h9 : ((256 ^ 4 : Nat) : Int) = 4294967296 := (by decide); omega)
  have HXx2 := Lib.hid (And.intro hx hr)
  have HS := Lib.hid hs
  have HR := Lib.hid hR
  clear hx hr hs hR
  obtain ⟨hcA, hfA, hlA⟩ := Blk.all (HS.out.at 1 rfl)
  have hs9 : St J0 (b :: bk q 51 #[.int .i64 6, .int .u32 x1, .int .u32 x2, .int .u64 0, .int .u32 0, .int .u32 0, .int .u32 0, .slice none 0 0, .string ⟨#[]⟩, .slice none 0 0, .slice none 0 0, .int .u16 0, .int .u32 0, .int .u8 0, .slice none 0 0, .slice none 0 0] :: M) ((w2).setCell ⟨q, 2, none⟩ (.int .u32 x2)) := (HS.out.swap1.set 2 (.int .u32 x2)).swap1
  have HS := Lib.hid hs9
  clear hs9
  obtain ⟨hcB, hfB, hlB⟩ := Blk.all (HS.out.at 1 rfl)
  have HA := Lib.hid (show ∀ p, T p → PkOk p ∧ p.arrs.any badA = false ∧ 0 < p.arrs.length ∧ p.arrs.length ≤ 255 ∧ ∃ t, r2 = (u16B p.base ++ (u16B p.arrs.length ++ (u32B (p.ref * 256 + p.count) ++ (marksT p.arrs ((p.arrs.length + 6) / 7) ++ (p.arrs.flatMap farO ++ t)))), false) from fun p hp => by
    obtain ⟨hg, hok, hk, hr⟩ := HT.out p hp
    obtain ⟨h1, t, h2⟩ := shape6 hg hk
    have h3 : p.arrs.any badA = false ∧ 0 < p.arrs.length ∧ p.arrs.length ≤ 255 := by
      have := hg.1
      unfold KindOk at this
      rcases this with h | h | h | h | h | h | h
      all_goals first | exact ⟨h.2.1, by omega, by omega⟩ | (exfalso; omega)
    rw [h2] at hr
    obtain ⟨a1, hr⟩ := rd4_of HXx1.out hok.sender hr
    obtain ⟨a2, hr6⟩ := rd4_of HXx2.out hok.media hr
    exact ⟨hok, h3.1, h3.2.1, h3.2.2, t, hr6⟩)
  have HC := Lib.hid (arrsC J0 M _ q p9 x1 x2 r2 b T HA.out HL.out HS.out HR.out)
  go_wp2_with fail
  go_at_call 63
  refine HC.out.mono ?_
  clear HC HR HS hcA hfA hlA hcB hfB hlB
  rintro e W5 ⟨rfl, J2, bs, rf, ct, L, A, c, b, r', hle2, hs, hR, hbs, hrf, hct, hll, hp⟩
  have HLE := Lib.hid hle2
  have HP := Lib.hid hp
  have HS := Lib.hid hs
  clear hle2 hp hs hR
  have hb : Blk W5 q 51 #[.int .i64 6, .int .u32 x1, .int .u32 x2, .int .u64 0, .int .u32 0, .int .u32 0, .int .u32 0, .slice none 0 0, .string ⟨#[]⟩, .slice none 0 0, .slice none 0 0, .int .u16 bs, .int .u32 rf, .int .u8 ct, .slice A L.length c, .slice none 0 0] := HS.out.at 1 rfl
  have hone : (#[.int .i64 6, .int .u32 x1, .int .u32 x2, .int .u64 0, .int .u32 0, .int .u32 0, .int .u32 0, .slice none 0 0, .string ⟨#[]⟩, .slice none 0 0, .slice none 0 0, .int .u16 bs, .int .u32 rf, .int .u8 ct, .slice A L.length c, .slice none 0 0] : Array Value).all (·.oneCell') = true := by kernel_rfl
  have HS6 := Lib.hid (HS.out.setR1 #[.int .i64 6, .int .u32 x1, .int .u32 x2, .int .u64 0, .int .u32 0, .int .u32 0, .int .u32 0, .slice none 0 0, .string ⟨#[]⟩, .slice none 0 0, .slice none 0 0, .int .u16 bs, .int .u32 rf, .int .u8 ct, .slice A L.length c, .slice none 0 0])
  go_wp2_with (first | refine wpList_load_row rfl 51 (.tmp 6) rfl q rfl 51 _ (0, 0) _ hb hd rfl st51I ?_ | refine wpList_store_row rfl 51 (.tmp 6) (.tmp _) rfl q #[.int .i64 6, .int .u32 x1, .int .u32 x2, .int .u64 0, .int .u32 0, .int .u32 0, .int .u32 0, .slice none 0 0, .string ⟨#[]⟩, .slice none 0 0, .slice none 0 0, .int .u16 bs, .int .u32 rf, .int .u8 ct, .slice A L.length c, .slice none 0 0] rfl rfl 51 _ hb st51I rfl hone ?_)
  refine bodyPost_ret (results_cell_row (p := 6) Try.results30 _ _ q 51 _ (0, 0) _ rfl (HS6.out.at 1 rfl) hd rfl st51I) rfl ?_
  have hcap := (own_cap (show World.ownsRow _ 0 3 1 (.slice A L.length c) L.length _ from HS6.out.at 2 rfl)).2
  obtain ⟨J3, hle3, hs7, hcl⟩ := HS6.out.drop.drop.freezeRow
  refine ⟨J3, ⟨6, x1, x2, 0, 0, 0, 0, [], ⟨#[]⟩, [], [], bs, rf, ct, L, []⟩, ⟨nilV, nilV, nilV, .slice A L.length c, nilV⟩, rfl, HLE.out.trans hle3, hs7, ⟨SlC.nil J3 _, SlC.nil J3 _, SlC.nil J3 _, ⟨A, c, rfl, hcl, hcap⟩, SlC.nil J3 _⟩, raw_mk ⟨x1a, x1b⟩ ⟨x2a, x2b⟩ (by simp) (by simp) (by simp) (by simp) (by simp) (by simp) (by simp) hbs hrf hct (by simp) (Nat.zero_le _) (Nat.zero_le _) (Nat.zero_le _) (show L.length ≤ 70000 by omega) (Nat.zero_le _) (Nat.zero_le _), .inl rfl, fun p hp => ?_⟩
  obtain ⟨hg, hok, hk, hr⟩ := HT.out p hp
  obtain ⟨h1, t, h2⟩ := shape6 hg hk
  rw [h2] at hr
  obtain ⟨a1, hr⟩ := rd4_of HXx1.out hok.sender hr
  obtain ⟨a2, hr6⟩ := rd4_of HXx2.out hok.media hr
  obtain ⟨p1, p2, p3, p4⟩ := HP.out p hp
  rw [a1, a2, ← p1, ← p2, ← p3, ← p4, ← h1]
end Go.Proofs.Ytddopbbmgpnjjaa
