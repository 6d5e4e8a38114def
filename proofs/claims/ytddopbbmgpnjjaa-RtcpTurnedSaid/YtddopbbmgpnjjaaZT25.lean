/- part. -/
import Derived.Test.YtddopbbmgpnjjaaZT24
namespace Go.Proofs.Ytddopbbmgpnjjaa
set_option linter.unusedSimpArgs false
open Go.RowKit
theorem i16_form (x : Int) : IntKind.i16.wrap x = if x % 65536 >= 32768 then x % 65536 - 65536 else x % 65536 := by
 simp only [IntKind.wrap, IntKind.signed, IntKind.bits, Bool.true_and]
 show (if decide (x % 65536 >= 32768) = true then x % 65536 - 65536 else x % 65536) = _
 simp only [decide_eq_true_eq]
theorem i16_rng (x : Int) : -32768 <= IntKind.i16.wrap x /\ IntKind.i16.wrap x <= 32767 := by
 rw [i16_form]
 split <;> omega
theorem i16_back {a : Int} (h : -32768 <= a /\ a <= 32767) : IntKind.i16.wrap (a % 65536) = a := by
 rw [i16_form]
 split <;> omega
theorem bad_no {a : Int} (h : Xp a = false) (hn : ¬ a = 65536) : -32768 <= a /\ a <= 32767 := by
 unfold Xp XQ at h
 simp at h
 omega
theorem u8_mod' (x : Int) : IntKind.u8.wrap x = x % 256 := by simp only [IntKind.wrap, IntKind.signed, IntKind.bits]; rfl
def ArrsOk (J0 : Zh) (M : List Zt) (T : Pk -> Prop) (q p9 : Nat) (x1 x2 : Int) (e : Ending) (w' : World) : Prop :=
 e = .returned (.tuple #[]) /\ ∃ J bs rf ct L A c b' r', J0.le J /\ St J (b' :: bk q 51 #[.int .i64 6, .int .u32 x1, .int .u32 x2, .int .u64 0, .int .u32 0, .int .u32 0, .int .u32 0, .slice none 0 0, .string ⟨#[]⟩, .slice none 0 0, .slice none 0 0, .int .u16 bs, .int .u32 rf, .int .u8 ct, .slice A L.length c, .slice none 0 0] :: row 3 1 (.slice A L.length c) L.length (flat XC L) :: M) w' /\ Rdr J p9 r' b' /\ (0 <= bs /\ bs <= 65535) /\ (0 <= rf /\ rf <= 4294967295) /\ (0 <= ct /\ ct <= 255) /\ L.length <= 65535 /\ ∀ p, T p -> p.base = bs /\ p.ref = rf /\ p.count = ct /\ p.ZF = L
abbrev wrdF (l : List Int) (j : Nat) : List UInt8 := Zi (WP l (7 * j))
theorem marks_range (l : List Int) : ∀ m, Xu l m = (List.range m).flatMap (wrdF l)
 | 0 => rfl
 | m + 1 => by
  rw [List.range_succ, List.flatMap_append, <- marks_range l m]
  simp [Xu]
theorem range_next {l : List Int} {m k : Nat} (h : k < m) : ((List.range m).drop k).flatMap (wrdF l) = Zi (WP l (7 * k)) ++ ((List.range m).drop (k + 1)).flatMap (wrdF l) := by
 rw [List.drop_eq_getElem_cons (by rw [List.length_range]; exact h), List.flatMap_cons, List.getElem_range]
theorem word_rng (l : List Int) (i : Nat) : 0 <= WP l i /\ WP l i <= 65535 := by
 have := cv_lt l i 7
 unfold WP
 omega
theorem cv_digit (l : List Int) (i : Nat) : ∀ (n k : Nat), k < n -> cv l i n / 4 ^ (n - 1 - k) % 4 = mkN l (i + k)
 | 0, k, h => absurd h (Nat.not_lt_zero _)
 | n + 1, k, h => by
  have h1 := mkN_le l (i + n)
  rcases Nat.lt_or_ge k n with h2 | h2
  ·have h3 := cv_digit l i n k h2
   have e : n + 1 - 1 - k = (n - 1 - k) + 1 := by omega
   rw [e, Nat.pow_succ, Nat.mul_comm _ 4, <- Nat.div_div_eq_div_mul]
   show (4 * cv l i n + mkN l (i + n)) / 4 / 4 ^ (n - 1 - k) % 4 = _
   rw [show (4 * cv l i n + mkN l (i + n)) / 4 = cv l i n by omega, h3]
  obtain rfl : k = n := by omega
  rw [show k + 1 - 1 - k = 0 by omega]
  show (4 * cv l i k + mkN l (i + k)) / 4 ^ 0 % 4 = _
  rw [Nat.pow_zero, Nat.div_one]
  omega
theorem and_3 (y : Nat) (h : y < 65536) : bits BinOp.and IntKind.u16 (y : Int) 3 = ((y % 4 : Nat) : Int) := by
 have e2 : (BitVec.ofInt 16 (y : Int)).toNat = y := by rw [BitVec.ofInt_natCast, BitVec.toNat_ofNat]; exact Nat.mod_eq_of_lt (by omega)
 show IntKind.u16.wrap ((BitVec.ofInt 16 (y : Int) &&& BitVec.ofInt 16 (3 : Int)).toNat : Int) = _
 rw [BitVec.toNat_and, e2, show (BitVec.ofInt 16 (3 : Int)).toNat = 2 ^ 2 - 1 from rfl, Nat.and_two_pow_sub_one_eq_mod, Y9]
 omega
theorem word_mark {l : List Int} {i : Nat} (h : i < l.length) : (WP l (7 * (i / 7))).toNat / 2 ^ (12 - 2 * (i % 7)) % 4 = (YC l[i]).toNat := by
 have h1 := cv_lt l (7 * (i / 7)) 7
 have e1 : (WP l (7 * (i / 7))).toNat = 3 * 4 ^ 7 + cv l (7 * (i / 7)) 7 := by unfold WP; omega
 have h2 := cv_digit l (7 * (i / 7)) 7 (i % 7) (by omega)
 rw [show 7 * (i / 7) + i % 7 = i by omega] at h2
 have h3 : mkN l i = (YC l[i]).toNat := by unfold mkN; rw [dif_pos h]
 rw [<- h3, <- h2, e1]
 have hk : i % 7 < 7 := by omega
 generalize i % 7 = k at hk
 generalize cv l (7 * (i / 7)) 7 = x at h1
 have hk' : k = 0 \/ k = 1 \/ k = 2 \/ k = 3 \/ k = 4 \/ k = 5 \/ k = 6 := by omega
 rcases hk' with rfl | rfl | rfl | rfl | rfl | rfl | rfl
 all_goals simp only [show (7 - 1 - 0 : Nat) = 6 from rfl, show (7 - 1 - 1 : Nat) = 5 from rfl, show (7 - 1 - 2 : Nat) = 4 from rfl, show (7 - 1 - 3 : Nat) = 3 from rfl, show (7 - 1 - 4 : Nat) = 2 from rfl, show (7 - 1 - 5 : Nat) = 1 from rfl, show (7 - 1 - 6 : Nat) = 0 from rfl]
 all_goals omega
set_option maxRecDepth 100000 in
set_option maxHeartbeats 20000000 in
theorem arrsC (J0 : Zh) (M : List Zt) (w : World) (q p9 : Nat) (x1 x2 : Int) (r : RS) (b : Zt) (T : Pk -> Prop) (hT : ∀ p, T p -> Y6 p /\ p.ZF.any Xp = false /\ 0 < p.ZF.length /\ p.ZF.length <= 255 /\ ∃ t, r = (Zi p.base ++ (Zi p.ZF.length ++ (ZM (p.ref * 256 + p.count) ++ (Xu p.ZF ((p.ZF.length + 6) / 7) ++ (p.ZF.flatMap XW ++ t)))), false)) (hl : r.1.length <= 2000) (ZX : St J0 (b :: bk q 51 #[.int .i64 6, .int .u32 x1, .int .u32 x2, .int .u64 0, .int .u32 0, .int .u32 0, .int .u32 0, .slice none 0 0, .string ⟨#[]⟩, .slice none 0 0, .slice none 0 0, .int .u16 0, .int .u32 0, .int .u8 0, .slice none 0 0, .slice none 0 0] :: M) w) (hR : Rdr J0 p9 r b) :
  Calls Try.prog 63 #[.pointer (some ⟨q, 0, none⟩), .pointer (some ⟨p9, 0, none⟩)] w (ArrsOk J0 M T q p9 x1 x2) := by
 have HT := VL hT
 have HR := VL hR
 have HS := VL ZX
 have HL := VL hl
 clear hT hR ZX hl
 go_enter Try.func63, Try.ntmps63
 obtain ⟨hcA, hfA, hlA⟩ := ZO.all (HS.out.at 1 rfl)
 have HC := VL (rd_u16 (I := J0) p9 r b HS.out HR.out)
 go_wp2_with fail
 go_at_call 28
 refine HC.out.mono ?_
 clear HC HS HR hcA hfA hlA
 try clear hcB hfB hlB
 rintro e w1 ⟨_, _, _, rfl, _, hs, rfl, rfl, b, hR, rfl⟩
 obtain ⟨bs, hx⟩ : ∃ z, z = ((YP (Zl 2 r).1 : Nat) : Int) := ⟨_, rfl⟩
 obtain ⟨r1, hr⟩ : ∃ z, z = (Zl 2 r).2 := ⟨_, rfl⟩
 have Zw := YT 2 r 2 (by decide)
 rw [<- hx] at Zw ⊢
 rw [<- hr] at hR
 obtain ⟨bsa, bsb⟩ := Zw
 have HL := VL (show r1.1.length <= 2000 from (by rw [hr]; exact Nat.le_trans (Ze 2 r) HL.out))
 replace bsb : bs <= 65535 := (by have h9 : ((256 ^ 2 : Nat) : Int) = 65536 := (by decide); omega)
 have HXbs := VL (And.intro hx hr)
 have HS := VL hs
 have HR := VL hR
 clear hx hr hs hR
 obtain ⟨hcA, hfA, hlA⟩ := ZO.all (HS.out.at 1 rfl)
 have hs9 : St J0 (b :: bk q 51 #[.int .i64 6, .int .u32 x1, .int .u32 x2, .int .u64 0, .int .u32 0, .int .u32 0, .int .u32 0, .slice none 0 0, .string ⟨#[]⟩, .slice none 0 0, .slice none 0 0, .int .u16 bs, .int .u32 0, .int .u8 0, .slice none 0 0, .slice none 0 0] :: M) ((w1).setCell ⟨q, 11, none⟩ (.int .u16 bs)) := (HS.out.ZQ.set 11 (.int .u16 bs)).ZQ
 have HS := VL hs9
 clear hs9
 obtain ⟨hcB, hfB, hlB⟩ := ZO.all (HS.out.at 1 rfl)
 have HC := VL (rd_u16 (I := J0) p9 r1 b HS.out HR.out)
 go_wp2_with fail
 go_at_call 28
 refine HC.out.mono ?_
 clear HC HS HR hcA hfA hlA
 try clear hcB hfB hlB
 rintro e w2 ⟨_, _, _, rfl, _, hs, rfl, rfl, b, hR, rfl⟩
 obtain ⟨n, hx⟩ : ∃ z, z = ((YP (Zl 2 r1).1 : Nat) : Int) := ⟨_, rfl⟩
 obtain ⟨r2, hr⟩ : ∃ z, z = (Zl 2 r1).2 := ⟨_, rfl⟩
 have Zw := YT 2 r1 2 (by decide)
 rw [<- hx] at Zw ⊢
 rw [<- hr] at hR
 obtain ⟨na, nb⟩ := Zw
 have HL := VL (show r2.1.length <= 2000 from (by rw [hr]; exact Nat.le_trans (Ze 2 r1) HL.out))
 replace nb : n <= 65535 := (by have h9 : ((256 ^ 2 : Nat) : Int) = 65536 := (by decide); omega)
 have HXn := VL (And.intro hx hr)
 have HS := VL hs
 have HR := VL hR
 clear hx hr hs hR
 obtain ⟨hcA, hfA, hlA⟩ := ZO.all (HS.out.at 1 rfl)
 obtain ⟨N, rfl⟩ : ∃ N : Nat, n = (N : Int) := ⟨n.toNat, by omega⟩
 have HC := VL (Y1 (I := J0) p9 r2 b HS.out HR.out)
 go_wp2_with fail
 go_at_call 62
 refine HC.out.mono ?_
 clear HC HS HR hcA hfA hlA
 try clear hcB hfB hlB
 rintro e w3 ⟨_, _, _, rfl, _, hs, rfl, rfl, b, hR, rfl⟩
 obtain ⟨rv, hx⟩ : ∃ z, z = ((YP (Zl 4 r2).1 : Nat) : Int) := ⟨_, rfl⟩
 obtain ⟨r3, hr⟩ : ∃ z, z = (Zl 4 r2).2 := ⟨_, rfl⟩
 have Zw := YT 4 r2 4 (by decide)
 rw [<- hx] at Zw ⊢
 rw [<- hr] at hR
 obtain ⟨rva, rvb⟩ := Zw
 have HL := VL (show r3.1.length <= 2000 from (by rw [hr]; exact Nat.le_trans (Ze 4 r2) HL.out))
 replace rvb : rv <= 4294967295 := (by have h9 : ((256 ^ 4 : Nat) : Int) = 4294967296 := (by decide); omega)
 have HXrv := VL (And.intro hx hr)
 have HS := VL hs
 have HR := VL hR
 clear hx hr hs hR
 obtain ⟨hcA, hfA, hlA⟩ := ZO.all (HS.out.at 1 rfl)
 have hu8 := u8_mod' rv
 have hrv : 0 <= rv / 256 /\ rv / 256 <= 16777215 := by omega
 have hrc : 0 <= rv % 256 /\ rv % 256 <= 255 := by omega
 obtain ⟨m, hm⟩ : ∃ m, m = (N + 6) / 7 := ⟨_, rfl⟩
 have hmi : ((N : Int) + 6) / 7 = (m : Int) := by omega
 have hml : m <= 9363 := by omega
 have HM := VL hm
 clear hm
 go_upto_region 6 with fail
 rw [hmi]
 have ZY : St J0 (b :: bk q 51 #[.int .i64 6, .int .u32 x1, .int .u32 x2, .int .u64 0, .int .u32 0, .int .u32 0, .int .u32 0, .slice none 0 0, .string ⟨#[]⟩, .slice none 0 0, .slice none 0 0, .int .u16 bs, .int .u32 (rv / 256), .int .u8 (rv % 256), .slice none 0 0, .slice none 0 0] :: M) _ := (((HS.out.ZQ.set 12 (.int .u32 (rv / 256))).set 13 (.int .u8 (rv % 256)))).ZQ
 clear HS hcA hfA hlA hu8 hmi
 generalize World.setCell (World.setCell _ _ _) _ _ = W4 at ZY ⊢
 have HS := VL ZY
 clear ZY
 have HF := VL (show ∀ p, T p -> (p.base = bs /\ p.ref = rv / 256 /\ p.count = rv % 256) /\ (p.ZF.any Xp = false /\ p.ZF.length = N) /\ ∃ t, r3 = ((List.range m).flatMap (wrdF p.ZF) ++ (p.ZF.flatMap XW ++ t), false) from fun p hp => by
  obtain ⟨hok, hbad, hp0, hp1, t, hr⟩ := HT.out p hp
  obtain ⟨a1, hr⟩ := WN HXbs.out hok.base hr
  obtain ⟨a2, hr⟩ := WN HXn.out (by omega) hr
  have h1 := hok.ref
  have h2 := hok.count
  obtain ⟨a3, hr6⟩ := YY HXrv.out (by omega) hr
  have h3 : N = p.ZF.length := by omega
  refine ⟨⟨a1.symm, by omega, by omega⟩, ⟨hbad, h3.symm⟩, t, ?_⟩
  rw [hr6, HM.out, h3, marks_range])
 have Yu := (HS.out.nil (e := 42) (size := 1)).up12
 clear HS
 have HS := VL Yu
 clear Yu
 go_loopw [6, 31] (fun cv iv wr => ∃ (k : Nat) (A1 : Option Addr) (c1 : Nat) (CH : List Int) (rL : RS) (b9 : Zt), cv = .slice A1 k c1 /\ iv = .int .i64 k /\ k <= m /\ Hid (St J0 (b9 :: bk q 51 #[.int .i64 6, .int .u32 x1, .int .u32 x2, .int .u64 0, .int .u32 0, .int .u32 0, .int .u32 0, .slice none 0 0, .string ⟨#[]⟩, .slice none 0 0, .slice none 0 0, .int .u16 bs, .int .u32 (rv / 256), .int .u8 (rv % 256), .slice none 0 0, .slice none 0 0] :: row 42 1 (.slice A1 k c1) k (flat Yp CH) :: M) wr /\ Rdr J0 p9 rL b9 /\ rL.1.length <= 2000 /\ CH.length = k /\ Rng CH /\ ∀ p, T p -> CH = (List.range k).map (fun j => WP p.ZF (7 * j)) /\ ∃ t, rL = (((List.range m).drop k).flatMap (wrdF p.ZF) ++ (p.ZF.flatMap XW ++ t), false))) (fun _ iv _ => m - (intOf iv).toNat)
 case atStart => exact ⟨0, none, 0, [], r3, b, rfl, rfl, Nat.zero_le _, VL ⟨HS.out, HR.out, HL.out, rfl, (fun x hx => by cases hx), fun p hp => ⟨rfl, (HF.out p hp).2.2⟩⟩⟩
 case round =>
  obtain ⟨k, A1, c1, CH, rL, b, rfl, rfl, hk, hh⟩ := hrel
  obtain ⟨hs, hR, hl9, hlen, hrn, ht⟩ := hh.out
  clear hh HS HR HL
  have HS := VL hs
  have HR := VL hR
  have HL := VL hl9
  have YZ := VL (And.intro hlen (And.intro hrn ht))
  clear hs hR hl9 hlen hrn ht
  by_cases Z0 : k < m
  ·have VK : (k : Int) < (m : Int) := by omega
   have HBd := VL (WY (I := J0) p9 rL b HS.out HR.out)
   obtain ⟨bd, hbd⟩ : ∃ x, x = rL.2 := ⟨_, rfl⟩
   rw [<- hbd] at HBd
   have HBB := VL hbd
   clear hbd
   cases bd
   ·skip
    go_upto_region 8 with (go_at_call 29; refine HBd.out.mono ?_; rintro e w3 ⟨rfl, hw⟩; subst hw)
    obtain ⟨hcA, hfA, hlA⟩ := ZO.all (HS.out.at 1 rfl)
    have HC := VL (rd_u16 (I := J0) p9 rL b HS.out HR.out)
    go_wp2_with fail
    go_at_call 28
    refine HC.out.mono ?_
    clear HC HS HR hcA hfA hlA
    try clear hcB hfB hlB
    rintro e w4 ⟨_, _, _, rfl, _, hs, rfl, rfl, b, hR, rfl⟩
    obtain ⟨ch, hx⟩ : ∃ z, z = ((YP (Zl 2 rL).1 : Nat) : Int) := ⟨_, rfl⟩
    obtain ⟨r4, hr⟩ : ∃ z, z = (Zl 2 rL).2 := ⟨_, rfl⟩
    have Zw := YT 2 rL 2 (by decide)
    rw [<- hx] at Zw ⊢
    rw [<- hr] at hR
    obtain ⟨cha, chb⟩ := Zw
    have HL := VL (show r4.1.length <= 2000 from (by rw [hr]; exact Nat.le_trans (Ze 2 rL) HL.out))
    replace chb : ch <= 65535 := (by have h9 : ((256 ^ 2 : Nat) : Int) = 65536 := (by decide); omega)
    have HXch := VL (And.intro hx hr)
    have HS := VL hs
    have HR := VL hR
    clear hx hr hs hR
    obtain ⟨hcA, hfA, hlA⟩ := ZO.all (HS.out.at 1 rfl)
    have Yu := HS.out.Yw (P := Try.prog) (t := 44) (e := 42) (cs := #[.int .u16 ch]) (n := 1) (size := 1) rfl (by decide) Try.underlying44 (by simp [Value.oneCell'])
    have XE := (HS.out.grow (.cells #[.int .u16 ch] 42)).Ya
    obtain ⟨i0, hi0, hz0, hz1, hz2⟩ := info_parts info42
    go_wp2_with (at_builtin; refine Zj _ rfl _ _ 44 44 rfl 0 42 i0 _ 1 2 Try.underlying44 hi0 hz0 hz1 hz2 rfl _ k (flat Yp CH) rfl XE.head _ 1 _ rfl Yu (by unfold maxLen; omega) (by omega) (Nat.zero_le _) ?_)
    intro v' w5 Z9 Zr hat
    have Zb : w5.ownsRow 0 42 1 v' (k + 1) (flat Yp (CH ++ [ch])) := by rw [Z7]; exact Z9
    obtain ⟨A10, c10, rfl⟩ := ZW Zb
    have HS6 := VL (XE.grown Zr Zb (by simpa using hat)).Ya
    clear HS Z9 Zb Zr hat Yu XE hcA hfA hlA
    go_wp2
    go_roundw
    case rel =>
     refine ⟨k + 1, A10, c10, CH ++ [ch], r4, b, rfl, by go_num, by omega, VL ⟨HS6.out, HR.out, HL.out, by rw [List.length_append, YZ.out.1]; rfl, ?_, fun p hp => ?_⟩⟩
     ·intro x hx
      rcases List.mem_append.1 hx with hx | hx
      ·exact YZ.out.2.1 x hx
      rw [List.mem_singleton.1 hx]
      exact ⟨cha, chb⟩
     obtain ⟨h1, t, h2⟩ := YZ.out.2.2 p hp
     rw [range_next Z0, List.append_assoc] at h2
     obtain ⟨a1, hr6⟩ := WN HXch.out (word_rng _ _) h2
     refine ⟨?_, t, hr6⟩
     rw [List.range_succ, List.map_append, <- h1, a1]
     rfl
    case measure => simp [intOf]; omega
   go_wp2_with (go_at_call 29; refine HBd.out.mono ?_; rintro e w3 ⟨rfl, hw⟩; subst hw)
   go_returns
   refine ⟨rfl, J0, bs, rv / 256, rv % 256, [], none, 0, b, rL, .refl J0, ?_, HR.out, ⟨bsa, bsb⟩, by omega, hrc, Nat.zero_le _, fun p hp => ?_⟩
   ·exact (HS.out.dn12.drop.nil (e := 3) (size := 1)).up12
   obtain ⟨h1, t, h2⟩ := YZ.out.2.2 p hp
   have h3 := HBB.out
   rw [h2] at h3
   cases h3
  obtain rfl : k = m := by omega
  obtain ⟨J1, hle1, hs6, hcl⟩ := HS.out.dn12.ZR
  have HS9 := VL (hs6.nil (e := 3) (size := 1)).up12
  have HR9 := VL (HR.out.mono hle1)
  clear HS HR
  have HS := HS9
  have HR := HR9
  clear HS9 HR9
  have HCL := VL (And.intro hcl hle1)
  clear hs6 hcl hle1
  go_upto_region 11 with fail
  go_loopw [42] (fun iv wr => ∃ (i : Nat) (A2 : Option Addr) (c2 : Nat) (L : List Int) (rM : RS) (b9 : Zt), iv = .int .i64 i /\ i <= N /\ Hid (St J1 (b9 :: bk q 51 #[.int .i64 6, .int .u32 x1, .int .u32 x2, .int .u64 0, .int .u32 0, .int .u32 0, .int .u32 0, .slice none 0 0, .string ⟨#[]⟩, .slice none 0 0, .slice none 0 0, .int .u16 bs, .int .u32 (rv / 256), .int .u8 (rv % 256), .slice A2 i c2, .slice none 0 0] :: row 3 1 (.slice A2 i c2) i (flat XC L) :: M) wr /\ Rdr J1 p9 rM b9 /\ rM.1.length <= 2000 /\ L.length = i /\ ∀ p, T p -> L = p.ZF.take i /\ ∃ t, rM = ((p.ZF.drop i).flatMap XW ++ t, false))) (fun iv _ => N - (intOf iv).toNat)
  case atStart => 
   refine ⟨0, none, 0, [], rL, b, rfl, Nat.zero_le _, VL ⟨HS.out, HR.out, HL.out, rfl, fun p hp => ⟨rfl, ?_⟩⟩⟩
   obtain ⟨h1, t, h2⟩ := YZ.out.2.2 p hp
   exact ⟨t, by rw [h2, List.drop_eq_nil_of_le (by rw [List.length_range]; omega)]; rfl⟩
  case round =>
   have HCH := VL (And.intro YZ.out.1 (And.intro YZ.out.2.1 (fun p hp => (YZ.out.2.2 p hp).1)))
   obtain ⟨i, A2, c2, L, rM, b, rfl, hi, hh⟩ := hrel
   obtain ⟨hs, hR, hl9, hlen, ht⟩ := hh.out
   clear hh HS HR HL YZ
   have HS := VL hs
   have HR := VL hR
   have HL := VL hl9
   have YZ := VL (And.intro hlen ht)
   clear hs hR hl9 hlen ht
   by_cases hlt2 : i < N
   ·have VK : (i : Int) < (N : Int) := by omega
    have HBd := VL (WY (I := J1) p9 rM b HS.out HR.out)
    obtain ⟨bd, hbd⟩ : ∃ x, x = rM.2 := ⟨_, rfl⟩
    rw [<- hbd] at HBd
    have HBB := VL hbd
    clear hbd
    cases bd
    ·skip
     obtain ⟨j, hj⟩ : ∃ j, j = i / 7 := ⟨_, rfl⟩
     obtain ⟨e7, he⟩ : ∃ e, e = i % 7 := ⟨_, rfl⟩
     have hj7 : (i : Int) / 7 = (j : Int) := by omega
     have he7 : (i : Int) % 7 = (e7 : Int) := by omega
     have hjm : j < k := by have := HM.out; omega
     have hjmi : (j : Int) < (k : Int) := by omega
     have he6 : e7 <= 6 := by omega
     have HJE := VL (And.intro hj he)
     clear hj he
     obtain ⟨g, o, eA, ZK⟩ := flat_get (s := 1) (fun _ => rfl) HCL.out.1 (by rw [HCH.out.1]; omega) (by decide)
     subst eA
     have hch : wr.cell? ⟨g, o + j, none⟩ = some (.int .u16 (CH[j]'(by rw [HCH.out.1]; exact hjm))) := by
      have := ZK _ _ HS.out j (by rw [HCH.out.1]; exact hjm) 0 (by decide)
      simpa using this
     have hcr := HCH.out.2.1 (CH[j]'(by rw [HCH.out.1]; exact hjm)) (List.getElem_mem _)
     have hcp : ∀ p, T p -> CH[j]'(by rw [HCH.out.1]; exact hjm) = WP p.ZF (7 * j) := fun p hp => by
      have h1 := HCH.out.2.2 p hp
      simp only [h1, List.getElem_map, List.getElem_range]
     have HCP := VL hcp
     clear ZK hcp
     generalize CH[j]'(by rw [HCH.out.1]; exact hjm) = ch at hch hcr HCP
     obtain ⟨ch, rfl⟩ : ∃ c : Nat, ch = (c : Int) := ⟨_, (Int.toNat_of_nonneg hcr.1).symm⟩
     have hcr2 : ch <= 65535 := by omega
     obtain ⟨mk, hmk⟩ : ∃ m, m = ch / 2 ^ (12 - 2 * e7) % 4 := ⟨_, rfl⟩
     have hand : bits BinOp.and IntKind.u16 ((ch : Int) / 2 ^ (12 - 2 * e7)) 3 = (mk : Int) := by
      rw [show ((ch : Int) / 2 ^ (12 - 2 * e7)) = ((ch / 2 ^ (12 - 2 * e7) : Nat) : Int) by simp, hmk]
      exact and_3 _ (by have := Nat.div_le_self ch (2 ^ (12 - 2 * e7)); omega)
     have hmk4 : mk < 4 := by omega
     have hsh : ((12 : Int) - 2 * (e7 : Int)).toNat = 12 - 2 * e7 := by omega
     have hsh0 : (0 : Int) <= 12 - 2 * (e7 : Int) := by omega
     have HMK := VL hmk
     clear hmk hcr
     go_upto_region 16 with (go_at_call 29; refine HBd.out.mono ?_; rintro e w3 ⟨rfl, hw⟩; subst hw)
     obtain ⟨hcA, hfA, hlA⟩ := ZO.all (HS.out.at 1 rfl)
     rcases (show mk = 0 \/ mk = 1 \/ (mk = 2 \/ mk = 3) by omega) with rfl | rfl | hmk23
     ·skip
      go_upto_region 17 with fail
      have Yu := HS.out.Yw (P := Try.prog) (t := 48) (e := 3) (cs := #[.int .i64 65536]) (n := 1) (size := 1) rfl (by decide) Try.underlying48 (by simp [Value.oneCell'])
      have XE := (HS.out.grow (.cells #[.int .i64 65536] 3)).Ya
      obtain ⟨i0, hi0, hz0, hz1, hz2⟩ := info_parts info3
      go_wp2_with (at_builtin; refine Zj _ rfl _ _ 48 48 rfl 0 3 i0 _ 1 8 Try.underlying48 hi0 hz0 hz1 hz2 rfl _ i (flat XC L) rfl XE.head _ 1 _ rfl Yu (by unfold maxLen; omega) (by omega) (Nat.zero_le _) ?_)
      intro v' w5 Z9 Zr hat
      have Zb : w5.ownsRow 0 3 1 v' (i + 1) (flat XC (L ++ [65536])) := by rw [Z7]; exact Z9
      obtain ⟨A10, c10, rfl⟩ := ZW Zb
      have Zo := XE.grown Zr Zb (by simpa using hat)
      have HS6 := VL (show St J1 (b :: bk q 51 #[.int .i64 6, .int .u32 x1, .int .u32 x2, .int .u64 0, .int .u32 0, .int .u32 0, .int .u32 0, .slice none 0 0, .string ⟨#[]⟩, .slice none 0 0, .slice none 0 0, .int .u16 bs, .int .u32 (rv / 256), .int .u8 (rv % 256), .slice A10 (i + 1) c10, .slice none 0 0] :: row 3 1 (.slice A10 (i + 1) c10) (i + 1) (flat XC (L ++ [65536])) :: M) (w5.setCell ⟨q, 14, none⟩ (.slice A10 (i + 1) c10)) from ((Zo.ZQ.set 14 (.slice A10 (i + 1) c10)).ZQ.Ya))
      clear HS
      obtain ⟨hcq, hfq, hlq⟩ := ZO.all (Zo.at 1 rfl)
      clear Zo Z9 Zb Zr hat Yu XE hcA hfA hlA
      go_wp2
      go_roundw
      case rel =>
       refine ⟨i + 1, A10, c10, L ++ [65536], rM, b, by go_num, by omega, VL ⟨HS6.out, HR.out, HL.out, by rw [List.length_append, YZ.out.1]; rfl, fun p hp => ?_⟩⟩
       obtain ⟨h1, t, h2⟩ := YZ.out.2 p hp
       have hpl := (HF.out p hp).2.1.2
       have hgi : i < p.ZF.length := by omega
       have hmk : (YC p.ZF[i]).toNat = 0 := by rw [HMK.out, <- word_mark hgi, <- HJE.out.1, <- HJE.out.2, <- HCP.out p hp]; rfl
       have hmo := Xg p.ZF[i]
       have hbd : Xp p.ZF[i] = false := (List.any_eq_false.1 (HF.out p hp).2.1.1 _ (List.getElem_mem hgi)) |> (by simpa using ·)
       have htk : p.ZF.take (i + 1) = p.ZF.take i ++ [p.ZF[i]] := List.take_succ_eq_append_getElem hgi
       rw [List.drop_eq_getElem_cons hgi, List.flatMap_cons, List.append_assoc] at h2
       rw [htk, <- h1]
       generalize p.ZF[i] = a at hmk hbd h2 hmo
       have h3 : YC a = 0 := by omega
       have h4 : a = 65536 := by
        unfold YC at h3
        split at h3
        ·assumption
        split at h3 <;> omega
       subst h4
       exact ⟨rfl, t, h2⟩
      case measure => simp [intOf]; omega
     ·skip
      go_upto_region 19 with fail
      clear hcA hfA hlA
      have YV := VL (fun (M9 : List Zt) (w' : World) (hm : bk q 51 #[.int .i64 6, .int .u32 x1, .int .u32 x2, .int .u64 0, .int .u32 0, .int .u32 0, .int .u32 0, .slice none 0 0, .string ⟨#[]⟩, .slice none 0 0, .slice none 0 0, .int .u16 bs, .int .u32 (rv / 256), .int .u8 (rv % 256), .slice A2 i c2, .slice none 0 0] ∈ M9) (hs : St J1 M9 w') => (show w'.cell? ⟨q, 14, none⟩ = some (.slice A2 i c2) from (ZO.all (hs.res _ hm)).1 14))
      refine YQ (S := fun w' => w'.cell? ⟨q, 14, none⟩ = some (.slice A2 i c2)) (by kernel_rfl) (YV.out _ _ (by simp) HS.out.drew) (fun ZL => ?_)
      have YM := HS.out.drew
      clear HS
      generalize World.drew _ = W3 at YM ZL ⊢
      refine wt 0 10 rfl (by kernel_rfl) (fun _ _ _ h => h) rfl ‹_› (by intro w h;go_simp;try with_reducible rfl) ?_
      try go_frame
      refine wt 1 2 rfl (by kernel_rfl) (fun _ _ _ h => h) rfl ‹_› (by intro w h;go_simp;try with_reducible rfl) ?_
      try go_frame
      refine wt 2 3 rfl (by kernel_rfl) (fun _ _ _ h => h) rfl ‹_› (by intro w h;go_simp;try with_reducible rfl) ?_
      try go_frame
      refine wt 3 4 rfl (by kernel_rfl) (fun _ _ _ h => h) rfl ‹_› (by intro w h;go_simp;try with_reducible rfl) ?_
      try go_frame
      refine wt 4 9 rfl (by kernel_rfl) (fun _ _ _ h => h) rfl ‹_› (by intro w h;go_simp;try with_reducible rfl) ?_
      try go_frame
      refine wt 5 6 rfl (by kernel_rfl) (fun _ _ _ h => h) rfl ‹_› (by intro w h;go_simp;try with_reducible rfl) ?_
      try go_frame
      have HC := VL (rd_u8 (I := J1) p9 rM b YM HR.out)
      refine ZU (i := 6) (o := _) (by kernel_rfl) rfl (fun K hK => ?_)
      go_simp
      try clear ZL
      refine HC.out.mono ?_
      clear HC HR YM
      rintro e w5 ⟨_, _, _, rfl, _, YM, rfl, rfl, b, hR, rfl⟩
      obtain ⟨y, hx⟩ : ∃ z, z = ((YP (Zl 1 rM).1 : Nat) : Int) := ⟨_, rfl⟩
      obtain ⟨r5, hr⟩ : ∃ z, z = (Zl 1 rM).2 := ⟨_, rfl⟩
      have Zw := YT 1 rM 1 (by decide)
      rw [<- hx] at Zw ⊢
      rw [<- hr] at hR
      obtain ⟨ya, yb⟩ := Zw
      have HL := VL (show r5.1.length <= 2000 from (by rw [hr]; exact Nat.le_trans (Ze 1 rM) HL.out))
      replace yb : y <= 255 := (by have h9 : ((256 ^ 1 : Nat) : Int) = 256 := (by decide); omega)
      have HXy := VL (And.intro hx hr)
      have HR := VL hR
      clear hx hr hR
      refine hK.out _ _ (YV.out _ _ (by simp) YM) (fun ZL => ?_)
      clear hK K
      try go_frame
      have hwy : IntKind.i64.wrap y = y := wrap_i64 (by omega) (by omega)
      refine wt 7 8 rfl (by kernel_rfl) (fun _ _ _ h => h) rfl ‹_› (by intro w h;go_simp;try with_reducible rfl) ?_
      try go_frame
      clear hwy
      refine ZU (i := 8) (o := _) (by kernel_rfl) rfl (fun K hK => ?_)
      go_simp
      have Yu := YM.Yw (P := Try.prog) (t := 48) (e := 3) (cs := #[.int .i64 y]) (n := 1) (size := 1) rfl (by decide) Try.underlying48 (by simp [Value.oneCell'])
      have XE := (YM.grow (.cells #[.int .i64 y] 3)).Ya
      try clear ZL
      refine hK.out _ _ (YV.out _ _ (by simp) XE) (fun ZL => ?_)
      clear hK K
      try go_frame
      obtain ⟨i0, hi0, hz0, hz1, hz2⟩ := info_parts info3
      refine ZU (i := 9) (o := _) (by kernel_rfl) rfl (fun K hK => ?_)
      refine YU _ (by rfl) _ _ 48 48 (by rfl) 0 3 i0 (.int .i64 0) 1 8 Try.underlying48 hi0 hz0 hz1 hz2 rfl _ i (flat XC L) (by rfl) XE.head _ 1 _ (by rfl) Yu (by unfold maxLen; omega) (by omega) (Nat.zero_le _) ?_
      intro v' w5 Z9 Zr hat
      have Zb : w5.ownsRow 0 3 1 v' (i + 1) (flat XC (L ++ [y])) := by rw [Z7]; exact Z9
      obtain ⟨A10, c10, rfl⟩ := ZW Zb
      have Zo := XE.grown Zr Zb (by simpa using hat)
      try clear ZL
      refine hK.out _ _ (YV.out _ _ (by simp) Zo) (fun ZL => ?_)
      clear hK K
      try go_frame
      refine wt 10 11 rfl (by kernel_rfl) (fun _ _ _ h => h) rfl ‹_› (by intro w h;go_simp;try with_reducible rfl) ?_
      try go_frame
      refine wt 11 12 rfl (by kernel_rfl) (fun _ _ _ h => h) rfl ‹_› (by intro w h;go_simp;try with_reducible rfl) ?_
      try go_frame
      have HS6 := VL (show St J1 (b :: bk q 51 #[.int .i64 6, .int .u32 x1, .int .u32 x2, .int .u64 0, .int .u32 0, .int .u32 0, .int .u32 0, .slice none 0 0, .string ⟨#[]⟩, .slice none 0 0, .slice none 0 0, .int .u16 bs, .int .u32 (rv / 256), .int .u8 (rv % 256), .slice A10 (i + 1) c10, .slice none 0 0] :: row 3 1 (.slice A10 (i + 1) c10) (i + 1) (flat XC (L ++ [y])) :: M) (w5.setCell ⟨q, 14, none⟩ (.slice A10 (i + 1) c10)) from ((Zo.ZQ.set 14 (.slice A10 (i + 1) c10)).ZQ.Ya))
      obtain ⟨hp, fp, lp⟩ := ZO.all (Zo.at 1 rfl)
      refine Yi (i := 12) (o := _) (by kernel_rfl) rfl (by kernel_rfl) (by kernel_rfl) (fun K hK => ?_)
      go_simp
      try clear ZL
      refine hK.out _ _ ?_
      clear hK K
      try go_frame
      clear Zo Z9 Zb Zr hat Yu XE YM hp fp lp
      go_wp2
      go_roundw
      case rel =>
       refine ⟨i + 1, A10, c10, L ++ [y], r5, b, by go_num, by omega, VL ⟨HS6.out, HR.out, HL.out, by rw [List.length_append, YZ.out.1]; rfl, fun p hp => ?_⟩⟩
       obtain ⟨h1, t, h2⟩ := YZ.out.2 p hp
       have hpl := (HF.out p hp).2.1.2
       have hgi : i < p.ZF.length := by omega
       have hmk : (YC p.ZF[i]).toNat = 1 := by rw [HMK.out, <- word_mark hgi, <- HJE.out.1, <- HJE.out.2, <- HCP.out p hp]; rfl
       have hmo := Xg p.ZF[i]
       have hbd : Xp p.ZF[i] = false := (List.any_eq_false.1 (HF.out p hp).2.1.1 _ (List.getElem_mem hgi)) |> (by simpa using ·)
       have htk : p.ZF.take (i + 1) = p.ZF.take i ++ [p.ZF[i]] := List.take_succ_eq_append_getElem hgi
       rw [List.drop_eq_getElem_cons hgi, List.flatMap_cons, List.append_assoc] at h2
       rw [htk, <- h1]
       generalize p.ZF[i] = a at hmk hbd h2 hmo
       have h3 : YC a = 1 := by omega
       have h4 : 0 <= a /\ a <= 255 := by
        unfold YC at h3
        split at h3
        ·omega
        split at h3
        ·assumption
        omega
       unfold XW at h2
       rw [if_pos h3, show a % 256 = a by omega] at h2
       obtain ⟨a1, hr6⟩ := Wd HXy.out h4 h2
       rw [a1]
       exact ⟨rfl, t, hr6⟩
      case measure => simp [intOf]; omega
     have hne0 : ((mk : Int) == 0) = false := by rw [beq_eq_false_iff_ne]; omega
     have hne1 : ((mk : Int) == 1) = false := by rw [beq_eq_false_iff_ne]; omega
     go_upto_region 15 with fail
     clear hcA hfA hlA
     have YV := VL (fun (M9 : List Zt) (w' : World) (hm : bk q 51 #[.int .i64 6, .int .u32 x1, .int .u32 x2, .int .u64 0, .int .u32 0, .int .u32 0, .int .u32 0, .slice none 0 0, .string ⟨#[]⟩, .slice none 0 0, .slice none 0 0, .int .u16 bs, .int .u32 (rv / 256), .int .u8 (rv % 256), .slice A2 i c2, .slice none 0 0] ∈ M9) (hs : St J1 M9 w') => (show w'.cell? ⟨q, 14, none⟩ = some (.slice A2 i c2) from (ZO.all (hs.res _ hm)).1 14))
     refine YQ (S := fun w' => w'.cell? ⟨q, 14, none⟩ = some (.slice A2 i c2)) (by kernel_rfl) (YV.out _ _ (by simp) HS.out.drew) (fun ZL => ?_)
     have YM := HS.out.drew
     clear HS
     generalize World.drew _ = W3 at YM ZL ⊢
     refine wt 0 11 rfl (by kernel_rfl) (fun _ _ _ h => h) rfl ‹_› (by intro w h;go_simp;try with_reducible rfl) ?_
     try go_frame
     refine wt 1 2 rfl (by kernel_rfl) (fun _ _ _ h => h) rfl ‹_› (by intro w h;go_simp;try with_reducible rfl) ?_
     try go_frame
     refine wt 2 3 rfl (by kernel_rfl) (fun _ _ _ h => h) rfl ‹_› (by intro w h;go_simp;try with_reducible rfl) ?_
     try go_frame
     refine wt 3 4 rfl (by kernel_rfl) (fun _ _ _ h => h) rfl ‹_› (by intro w h;go_simp;try with_reducible rfl) ?_
     try go_frame
     refine wt 4 10 rfl (by kernel_rfl) (fun _ _ _ h => h) rfl ‹_› (by intro w h;go_simp;try with_reducible rfl) ?_
     try go_frame
     refine wt 5 6 rfl (by kernel_rfl) (fun _ _ _ h => h) rfl ‹_› (by intro w h;go_simp;try with_reducible rfl) ?_
     try go_frame
     have HC := VL (rd_u16 (I := J1) p9 rM b YM HR.out)
     refine ZU (i := 6) (o := _) (by kernel_rfl) rfl (fun K hK => ?_)
     go_simp
     try clear ZL
     refine HC.out.mono ?_
     clear HC HR YM
     rintro e w6 ⟨_, _, _, rfl, _, YM, rfl, rfl, b, hR, rfl⟩
     obtain ⟨y, hx⟩ : ∃ z, z = ((YP (Zl 2 rM).1 : Nat) : Int) := ⟨_, rfl⟩
     obtain ⟨r6, hr⟩ : ∃ z, z = (Zl 2 rM).2 := ⟨_, rfl⟩
     have Zw := YT 2 rM 2 (by decide)
     rw [<- hx] at Zw ⊢
     rw [<- hr] at hR
     obtain ⟨ya, yb⟩ := Zw
     have HL := VL (show r6.1.length <= 2000 from (by rw [hr]; exact Nat.le_trans (Ze 2 rM) HL.out))
     replace yb : y <= 65535 := (by have h9 : ((256 ^ 2 : Nat) : Int) = 65536 := (by decide); omega)
     have HXy := VL (And.intro hx hr)
     have HR := VL hR
     clear hx hr hR
     refine hK.out _ _ (YV.out _ _ (by simp) YM) (fun ZL => ?_)
     clear hK K
     try go_frame
     obtain ⟨z, hz⟩ : ∃ z, IntKind.i16.wrap y = z := ⟨_, rfl⟩
     have hzr := i16_rng y
     rw [hz] at hzr
     obtain ⟨hz1', hz2'⟩ := hzr
     have HZ := VL hz
     have hwy : IntKind.i64.wrap z = z := wrap_i64 (by omega) (by omega)
     refine wt 7 8 rfl (by kernel_rfl) (fun _ _ _ h => h) rfl ‹_› (by intro w h;go_simp;try with_reducible rfl) ?_
     try go_frame
     refine wt 8 9 rfl (by kernel_rfl) (fun _ _ _ h => h) rfl ‹_› (by intro w h;go_simp;try with_reducible rfl) ?_
     try go_frame
     clear hwy
     clear hz
     refine ZU (i := 9) (o := _) (by kernel_rfl) rfl (fun K hK => ?_)
     go_simp
     have Yu := YM.Yw (P := Try.prog) (t := 48) (e := 3) (cs := #[.int .i64 z]) (n := 1) (size := 1) rfl (by decide) Try.underlying48 (by simp [Value.oneCell'])
     have XE := (YM.grow (.cells #[.int .i64 z] 3)).Ya
     try clear ZL
     refine hK.out _ _ (YV.out _ _ (by simp) XE) (fun ZL => ?_)
     clear hK K
     try go_frame
     obtain ⟨i0, hi0, hz0, hz1, hz2⟩ := info_parts info3
     refine ZU (i := 10) (o := _) (by kernel_rfl) rfl (fun K hK => ?_)
     refine YU _ (by rfl) _ _ 48 48 (by rfl) 0 3 i0 (.int .i64 0) 1 8 Try.underlying48 hi0 hz0 hz1 hz2 rfl _ i (flat XC L) (by rfl) XE.head _ 1 _ (by rfl) Yu (by unfold maxLen; omega) (by omega) (Nat.zero_le _) ?_
     intro v' w5 Z9 Zr hat
     have Zb : w5.ownsRow 0 3 1 v' (i + 1) (flat XC (L ++ [z])) := by rw [Z7]; exact Z9
     obtain ⟨A10, c10, rfl⟩ := ZW Zb
     have Zo := XE.grown Zr Zb (by simpa using hat)
     try clear ZL
     refine hK.out _ _ (YV.out _ _ (by simp) Zo) (fun ZL => ?_)
     clear hK K
     try go_frame
     refine wt 11 12 rfl (by kernel_rfl) (fun _ _ _ h => h) rfl ‹_› (by intro w h;go_simp;try with_reducible rfl) ?_
     try go_frame
     refine wt 12 13 rfl (by kernel_rfl) (fun _ _ _ h => h) rfl ‹_› (by intro w h;go_simp;try with_reducible rfl) ?_
     try go_frame
     have HS6 := VL (show St J1 (b :: bk q 51 #[.int .i64 6, .int .u32 x1, .int .u32 x2, .int .u64 0, .int .u32 0, .int .u32 0, .int .u32 0, .slice none 0 0, .string ⟨#[]⟩, .slice none 0 0, .slice none 0 0, .int .u16 bs, .int .u32 (rv / 256), .int .u8 (rv % 256), .slice A10 (i + 1) c10, .slice none 0 0] :: row 3 1 (.slice A10 (i + 1) c10) (i + 1) (flat XC (L ++ [z])) :: M) (w5.setCell ⟨q, 14, none⟩ (.slice A10 (i + 1) c10)) from ((Zo.ZQ.set 14 (.slice A10 (i + 1) c10)).ZQ.Ya))
     obtain ⟨hp, fp, lp⟩ := ZO.all (Zo.at 1 rfl)
     refine Yi (i := 13) (o := _) (by kernel_rfl) rfl (by kernel_rfl) (by kernel_rfl) (fun K hK => ?_)
     go_simp
     try clear ZL
     refine hK.out _ _ ?_
     clear hK K
     try go_frame
     clear Zo Z9 Zb Zr hat Yu XE YM hp fp lp
     go_wp2
     go_roundw
     case rel =>
      refine ⟨i + 1, A10, c10, L ++ [z], r6, b, by go_num, by omega, VL ⟨HS6.out, HR.out, HL.out, by rw [List.length_append, YZ.out.1]; rfl, fun p hp => ?_⟩⟩
      obtain ⟨h1, t, h2⟩ := YZ.out.2 p hp
      have hpl := (HF.out p hp).2.1.2
      have hgi : i < p.ZF.length := by omega
      have hmk : (YC p.ZF[i]).toNat = mk := by rw [HMK.out, <- word_mark hgi, <- HJE.out.1, <- HJE.out.2, <- HCP.out p hp]; rfl
      have hmo := Xg p.ZF[i]
      have hbd : Xp p.ZF[i] = false := (List.any_eq_false.1 (HF.out p hp).2.1.1 _ (List.getElem_mem hgi)) |> (by simpa using ·)
      have htk : p.ZF.take (i + 1) = p.ZF.take i ++ [p.ZF[i]] := List.take_succ_eq_append_getElem hgi
      rw [List.drop_eq_getElem_cons hgi, List.flatMap_cons, List.append_assoc] at h2
      rw [htk, <- h1]
      generalize p.ZF[i] = a at hmk hbd h2 hmo
      have h3 : YC a = 2 := by omega
      have h5 : ¬ a = 65536 := by intro h; subst h; unfold YC at h3; simp at h3
      have h4 : -32768 <= a /\ a <= 32767 := bad_no hbd h5
      unfold XW at h2
      rw [if_neg (by omega), if_pos h3] at h2
      obtain ⟨a1, hr6⟩ := WN HXy.out (by omega) h2
      rw [<- HZ.out, a1, i16_back h4]
      exact ⟨rfl, t, hr6⟩
     case measure => simp [intOf]; omega
    go_wp2_with (go_at_call 29; refine HBd.out.mono ?_; rintro e w3 ⟨rfl, hw⟩; subst hw)
    go_returns
    refine ⟨rfl, J1, bs, rv / 256, rv % 256, L, A2, c2, b, rM, HCL.out.2, ?_, HR.out, ⟨bsa, bsb⟩, by omega, hrc, ?_, fun p hp => ?_⟩
    ·rw [YZ.out.1]; exact HS.out
    ·rw [YZ.out.1]; omega
    obtain ⟨h1, t, h2⟩ := YZ.out.2 p hp
    have h3 := HBB.out
    rw [h2] at h3
    cases h3
   obtain rfl : i = N := by omega
   go_wp2
   go_returns
   refine ⟨rfl, J1, bs, rv / 256, rv % 256, L, A2, c2, b, rM, HCL.out.2, ?_, HR.out, ⟨bsa, bsb⟩, by omega, hrc, ?_, fun p hp => ?_⟩
   ·rw [YZ.out.1]; exact HS.out
   ·rw [YZ.out.1]; omega
   obtain ⟨h1, t, h2⟩ := YZ.out.2 p hp
   have h3 := HF.out p hp
   refine ⟨h3.1.1, h3.1.2.1, h3.1.2.2, ?_⟩
   rw [h1, <- h3.2.1.2, List.take_length]
theorem and_3b (y : Nat) (h : y < 65536) : bits BinOp.and IntKind.i64 (y : Int) 3 = ((y % 4 : Nat) : Int) := by
 have e2 : (BitVec.ofInt 64 (y : Int)).toNat = y := by rw [BitVec.ofInt_natCast, BitVec.toNat_ofNat]; exact Nat.mod_eq_of_lt (by omega)
 show IntKind.i64.wrap ((BitVec.ofInt 64 (y : Int) &&& BitVec.ofInt 64 (3 : Int)).toNat : Int) = _
 rw [BitVec.toNat_and, e2, show (BitVec.ofInt 64 (3 : Int)).toNat = 2 ^ 2 - 1 from rfl, Nat.and_two_pow_sub_one_eq_mod, wrap_i64 (by omega) (by omega)]
theorem words_at {l : List Int} {R : List UInt8} {m : Nat} : ∀ j, j <= m -> ((List.range m).flatMap (wrdF l) ++ R).drop (2 * j) = ((List.range m).drop j).flatMap (wrdF l) ++ R
 | 0, _ => by simp
 | j + 1, h => by
  have ih := words_at (l := l) (R := R) (m := m) j (by omega)
  rw [show 2 * (j + 1) = 2 * j + 2 by omega, <- List.drop_drop, ih, range_next (by omega), List.append_assoc]
  rfl
theorem nmA_last {bs : List UInt8} {i : Nat} (h : i + 4 <= bs.length) : Yl bs (i + 3) 1 = Yl bs i 4 % 256 := by
 have e : (bs.drop i).take 4 = (bs.drop i).take 3 ++ [bs[i + 3]] := by
  rw [List.take_succ_eq_append_getElem (by rw [List.length_drop]; omega)]
  simp
 rw [nmA_1 (by omega)]
 unfold Yl
 rw [e, numL_snoc]
 have := UInt8.toNat_lt bs[i + 3]
 omega
theorem ref_six {p : Pk} {bs : List UInt8} (hg : Good p) (hok : Y6 p) (hb : bs = ZV p) (hk : p.kind = 6) {NN m9 : Nat} (hN : (NN : Int) = Yl bs 14 2) (hm : m9 = (NN + 6) / 7) :
  (⟨6, Yl bs 4 4, Yl bs 8 4, 0, 0, 0, 0, [], ⟨#[]⟩, [], [], Yl bs 12 2, Yl bs 16 4 / 256, Yl bs 19 1, p.ZF, []⟩ : Pk) = p /\ p.ZF.length = NN /\ p.ZF.any Xp = false /\ (1 <= NN /\ NN <= 255) /\ 20 + 2 * m9 <= bs.length /\ (∀ j, j < m9 -> Yl bs (20 + 2 * j) 2 = WP p.ZF (7 * j)) /\ ∃ t, bs.drop (20 + 2 * m9) = p.ZF.flatMap XW ++ t := by
 obtain ⟨k1, k8, hr⟩ := Y5 hg hb
 have hlen := (WJ hg hb).2.2.2 hk
 obtain ⟨h1, t, h2⟩ := shape6 hg hk
 have h3 : p.ZF.any Xp = false /\ 1 <= p.ZF.length /\ p.ZF.length <= 255 /\ p.ref < 16777216 := by
  have := hg.1
  unfold YF at this
  rcases this with h | h | h | h | h | h | h
  all_goals first | exact ⟨h.2.1, h.2.2.1, h.2.2.2.1, h.2.2.2.2⟩ | (exfalso; omega)
 have hrf := hok.ref
 have hct := hok.count
 rw [h2] at hr
 obtain ⟨a1, hr⟩ := YY (Xn (by omega)) hok.ZA hr
 obtain ⟨a2, hr⟩ := YY (Xn (by omega)) hok.ZC hr
 obtain ⟨a3, hr⟩ := WN (rdA2 (by omega)) hok.base hr
 obtain ⟨a4, hr⟩ := WN (rdA2 (by omega)) (by omega) hr
 obtain ⟨a5, hr⟩ := YY (Xn (by omega)) (by omega) hr
 have a4 : Yl bs 14 2 = (p.ZF.length : Int) := a4
 have a5 : Yl bs 16 4 = p.ref * 256 + p.count := a5
 have hNN : p.ZF.length = NN := by omega
 have a6 : Yl bs 19 1 = p.count := by
  rw [nmA_last (i := 16) (by omega), a5]
  omega
 have hr2 : bs.drop 20 = (List.range m9).flatMap (wrdF p.ZF) ++ (p.ZF.flatMap XW ++ t) := by
  have h := congrArg Prod.fst hr
  rw [marks_range] at h
  rw [hm, <- hNN]
  exact h
 have hwl : ∀ j : Nat, ((List.range j).flatMap (wrdF p.ZF)).length = 2 * j := by
  intro j
  induction j with
  | zero => rfl
  | succ j ih => rw [List.range_succ, List.flatMap_append, List.length_append, ih, List.flatMap_singleton, Zz]; omega
 have hln := congrArg List.length hr2
 rw [List.length_drop, List.length_append, hwl] at hln
 refine ⟨?_, hNN, h3.1, by omega, by omega, fun j hj => ?_, t, ?_⟩
 ·rw [a1, a6, show Yl bs 8 4 = p.ZC from a2, show Yl bs 12 2 = p.base from a3, a5]
  have : (p.ref * 256 + p.count) / 256 = p.ref := by omega
  rw [this]
  exact h1.symm
 ·have h := words_at (l := p.ZF) (R := p.ZF.flatMap XW ++ t) (m := m9) j (by omega)
  rw [<- hr2, List.drop_drop, range_next hj, List.append_assoc] at h
  have g := WN (rdA2 (bs := bs) (i := 20 + 2 * j) (by omega)) (word_rng p.ZF (7 * j)) (congrArg (fun z => (z, false)) h)
  exact g.1
 have h := words_at (l := p.ZF) (R := p.ZF.flatMap XW ++ t) (m := m9) m9 (Nat.le_refl _)
 rw [<- hr2, List.drop_drop] at h
 rw [h, List.drop_eq_nil_of_le (by rw [List.length_range]; exact Nat.le_refl _)]
 rfl
theorem mark_at {l : List Int} {i : Nat} (h : i < l.length) {wd : Int} (hw : wd = WP l (7 * (i / 7))) : wd.toNat / 2 ^ (12 - 2 * (i % 7)) % 4 = (YC l[i]).toNat := by
 rw [hw]
 exact word_mark h
theorem farO_ln (a : Int) : (YC a).toNat <= (XW a).length := by
 have := Xg a
 unfold XW
 split
 ·rw [List.length_singleton]; omega
 split
 ·rw [Zz]; omega
 rw [List.length_nil]; omega
end Go.Proofs.Ytddopbbmgpnjjaa
