/- RtpPads: the law. -/
import Derived.Test.YtalmnbpljeaeaaaDoorRpE
namespace Go.Proofs.YtalmnbpljeaeaaaDoor
open Go.RowKit
set_option linter.unusedSimpArgs false

theorem second_at1 (m : Bool) : (bits BinOp.and IntKind.u8 ((second1 m 96).toNat : Int) 128 != 0) = m := by cases m <;> decide +kernel
theorem second_at2 (m : Bool) : bits BinOp.and IntKind.u8 ((second1 m 96).toNat : Int) 127 = 96 := by cases m <;> decide +kernel
theorem parseG (I : Img) (M : List Res) (w : World) (m : Bool) (A : Option Addr) (c pad : Nat) (pl : List UInt8) (hst : St I M w) (hb : Byts I A (buildL m 96 pl pad)) (hc : (buildL m 96 pl pad).length ≤ c) (hl : pl.length ≤ 1200) (hpad : pad ≤ 255) :
    Calls Tryd.prog 6 #[.slice A (buildL m 96 pl pad).length c] w (Ret I (fun v _ M' => ParsedQ m pad pl M v M')) := by
  have hlen := buildL_len m 96 pl pad
  rcases pad with _ | n
  · have e : buildL m 96 pl 0 = 128 :: second1 m 96 :: 0 :: 0 :: 0 :: 0 :: 0 :: 0 :: 0 :: 0 :: 0 :: 0 :: (pl ++ []) := rfl
    rw [e] at hb hc ⊢
    exact parse0 I M w m A c _ _ pl hst hb rfl hc hl (second_at1 m) (second_at2 m)
  · have e : buildL m 96 pl (n + 1) = 160 :: second1 m 96 :: 0 :: 0 :: 0 :: 0 :: 0 :: 0 :: 0 :: 0 :: 0 :: 0 :: (pl ++ (List.replicate n 0 ++ [UInt8.ofNat (n + 1)])) := by
      simp [buildL, headL, tailL, first1]
    obtain ⟨g, o, rfl, _⟩ := (show Byts I A (160 :: _) by rw [← e]; exact hb).at0
    have h := parse1 I M w m g o c (12 + pl.length) n (second1 m 96) pl hst (by rw [← e]; exact hb) (by rw [← e, hlen]; omega) (by omega) hl hpad rfl (second_at1 m) (second_at2 m)
    rw [show (buildL m 96 pl (n + 1)).length = 12 + pl.length + n + 1 by omega]
    exact h
theorem buildL_zero (m : Bool) (t : Nat) (pl : List UInt8) (pad k : Nat) (h : 12 + pl.length ≤ k) (hk : k + 1 < 12 + pl.length + pad) (hj : k < (buildL m t pl pad).length) : (buildL m t pl pad)[k] = 0 := by
  have e : buildL m t pl pad = (headL m t pad ++ pl) ++ (List.replicate (pad - 1) 0 ++ [UInt8.ofNat pad]) := by
    unfold buildL tailL
    rw [if_neg (by omega)]
  have e2 : (headL m t pad ++ pl).length = 12 + pl.length := by simp [headL]; omega
  simp only [e]
  rw [List.getElem_append_right (by omega), List.getElem_append_left (by rw [List.length_replicate]; omega), List.getElem_replicate]
theorem buildL_last (m : Bool) (t : Nat) (pl : List UInt8) (n : Nat) (hj : 12 + pl.length + n < (buildL m t pl (n + 1)).length) : (buildL m t pl (n + 1))[12 + pl.length + n] = UInt8.ofNat (n + 1) := by
  have e : buildL m t pl (n + 1) = (headL m t (n + 1) ++ pl) ++ (List.replicate n 0 ++ [UInt8.ofNat (n + 1)]) := by
    unfold buildL tailL
    rw [if_neg (by omega)]
    simp
  have e2 : (headL m t (n + 1) ++ pl).length = 12 + pl.length := by simp [headL]; omega
  simp only [e]
  rw [List.getElem_append_right (by omega), List.getElem_append_right (by rw [List.length_replicate]; omega)]
  simp
def CutP (I : Img) (M : List Res) (A : Option Addr) (c : Nat) (v : Value) (wx : World) : Prop := St I M wx ∧ ∃ pl : List UInt8, v = .slice A pl.length c ∧ Byts I A pl ∧ pl.length ≤ 1200
set_option maxRecDepth 8000 in
set_option maxHeartbeats 4000000 in
theorem lawP (I : Img) (M : List Res) (w : World) (A : Option Addr) (c : Nat) (bs : List UInt8) (pad : Nat) (m : Bool) (hst : St I M w) (hb : Byts I A bs) (hl : bs.length ≤ 9223372036854775807) (hcap : bs.length ≤ c) (hpad : pad ≤ 255) :
    Calls Tryd.prog 3 #[.slice A bs.length c, .int .u8 pad, .bool m] w (Ret I (fun v _ _ => v = .bool true)) := by
  have HA := Lib.hid (awakeC I M w hst)
  have HB := Lib.hid hb
  have h1 : (bs.length : Int) ≤ 9223372036854775807 := by omega
  have h2 : (pad : Int) ≤ 255 := by omega
  clear hst hb
  go_enter Tryd.func3, Tryd.ntmps3
  go_wp2_with fail
  go_at_call 4
  refine HA.out.mono ?_
  rintro e W ⟨_, J, M1, rfl, hle, hs, rfl, rfl⟩
  clear HA
  have HS := Lib.hid hs
  clear hs
  go_upto_if 16 with fail
  go_cut [0] (fun v wx => CutP J M1 A c v wx)
  case first =>
    by_cases hb : bs.length ≤ 1200
    · have h3 : decide ((1200 : Int) < bs.length) = false := decide_eq_false (by omega)
      go_wp2
      go_meet
      exact ⟨HS.out, bs, rfl, HB.out.mono hle, hb⟩
    · have h3 : (1200 : Int) < bs.length := by omega
      have h4 : (1200 : Int) ≤ c := by omega
      go_wp2
      go_meet
      refine ⟨HS.out, bs.take 1200, ?_, (HB.out.mono hle).take 1200, by simp; omega⟩
      rw [List.length_take, Nat.min_eq_left (by omega)]
  case rest =>
    obtain ⟨hs, pl, rfl, hB, hpl⟩ := hcut
    obtain ⟨i0, hi, hz0, hz1, hz2⟩ := info_parts infoU8
    have hst1 := (hs.alloc 5 #[]).drop
    have hsrc := hB.src hst1 Tryd.underlying22 c
    have hown := World.ownsRow_lit (base := wc.heap.size) (e := 5) (size := 1) wc #[] 0 (Nat.le_refl _) (Nat.zero_le _) rfl
    have Hs := Lib.hid hsrc
    have Ho := Lib.hid hown
    have Hst := Lib.hid hs
    clear hsrc hown hst1 hs
    go_wp2_with (at_builtin; refine wpList_append_src _ rfl _ _ 22 22 rfl wc.heap.size 5 i0 (.int .u8 0) 1 1 Tryd.underlying22 hi hz0 hz1 hz2 rfl _ _ _ rfl Ho.out _ _ _ rfl Hs.out (by unfold maxLen; omega) (by omega) (by simp) ?_)
    intro v' w3 hown' hgrow _
    have hBl := ((Below.refl wc.heap.size wc).alloc (Nat.le_refl _) (.cells #[] 5)).grown hgrow (by simp) (fun k hk => by simp [Value.ownBlock] at hk; omega)
    have hown2 : w3.ownsRow wc.heap.size 5 1 v' pl.length (bvs pl) := by simpa using hown'
    obtain ⟨A', c', rfl⟩ := own_form hown2
    have hcc := (own_cap hown2).2
    obtain ⟨J2, hle2, hs3, hB3⟩ := (St.fresh Hst.out (Hst.out.below hBl) hown2).freezeRow
    have HC := Lib.hid (buildG J2 M1 w3 m 96 A' c' pad pl hs3 hB3 hpl (.inr rfl) hpad)
    clear hown' hown2 hgrow hBl hs3 Hs Ho Hst
    have hlen := buildL_len m 96 pl pad
    go_wp2_with fail
    go_at_call 5
    refine HC.out.mono ?_
    rintro e w4 ⟨_, J3, _, rfl, hle3, hs4, B, d, rfl, rfl⟩
    have hdc := (own_cap hs4.head).2
    obtain ⟨J4, hle4, hs5, hB5⟩ := hs4.freezeRow
    rw [hlen] at hdc ⊢
    have h5 : ((12 : Int) + pl.length + pad != 12 + pl.length + pad) = false := by simp
    have H5 := Lib.hid hs5
    have HB5 := Lib.hid (show Byts J4 B (buildL m 96 pl pad) from hB5)
    have HL := Lib.hid hlen
    have h6 : (pl.length : Int) ≤ 1200 := by omega
    clear hs4 hs5 hB5 hlen HC
    go_wp2
    go_loopw [9] (fun v wr => wr = w4 ∧ ∃ k : Nat, 12 + pl.length ≤ k ∧ k ≤ 12 + pl.length + pad ∧ v = .int .i64 k) (fun v _ => 12 + pl.length + pad - (intOf v).toNat)
    case atStart => exact ⟨rfl, 12 + pl.length, Nat.le_refl _, by omega, by simp⟩
    case round =>
      obtain ⟨hwr, k, hk1, hk2, rfl⟩ := hrel
      subst wr
      by_cases hk : k + 1 < 12 + pl.length + pad
      · obtain ⟨g, o, rfl, hcell⟩ := HB5.out.at (by rw [HL.out]; omega)
        have hce := hcell M1 _ H5.out k (by rw [HL.out]; omega)
        rw [buildL_zero m 96 pl pad k hk1 hk] at hce
        have h7 : (k : Int) < 12 + (pl.length : Int) + pad - 1 := by omega
        have h8 : (k : Int) ≤ 1500 := by omega
        have HK := Lib.hid hk1
        clear hcell hk1
        go_wp2
        go_roundw
        case rel => exact ⟨trivial, k + 1, by have := HK.out; omega, by omega, by go_num⟩
        case measure => simp [intOf]; omega
      · have h7 : ¬ (k : Int) < 12 + (pl.length : Int) + pad - 1 := by omega
        have hP := parseG J4 M1 w4 m B d pad pl H5.out HB5.out (by rw [HL.out]; exact hdc) hpl hpad
        rw [HL.out] at hP
        have HP := Lib.hid hP
        clear hP
        go_wp2_with fail
        go_at_call 6
        refine HP.out.mono ?_
        rintro e w5 ⟨_, J5, _, rfl, hle5, hs6, B', d', r1, r2, r3, rfl, rfl⟩
        obtain ⟨J6, hle6, hs7, hB6⟩ := hs6.freezeRow
        have hs8 := hs7.alloc 32 (pkC m 96 B' pl.length d' pad)
        obtain ⟨q8, hq8⟩ : ∃ q, q = w5.heap.size := ⟨_, rfl⟩
        rw [← hq8] at hs8
        clear hs6 HP H5
        go_upto_region 14 with fail
        rw [← hq8]
        clear hq8
        generalize World.alloc w5 _ = W8 at hs8 ⊢
        have hcv1 := Byts.conv (show Byts J6 B' pl from hB6) hs8 Tryd.underlying22 Tryd.underlying5 Tryd.underlying9 d'
        have hcv2 := (hB.mono (hle2.trans (hle3.trans (hle4.trans (hle5.trans hle6))))).conv hs8 Tryd.underlying22 Tryd.underlying5 Tryd.underlying9 c
        have HLE := Lib.hid (hle.trans (hle2.trans (hle3.trans (hle4.trans (hle5.trans hle6)))))
        have HLB := Lib.hid (HB5.out.mono (hle5.trans hle6))
        have HS8 := Lib.hid hs8
        clear hs7 hB6 hle2 hle3 hle4 hle5 hle6 hs8
        rcases pad with _ | n
        · obtain ⟨hcZ, hfZ, hltZ⟩ := Blk.all (HS8.out.at 0 rfl)
          go_wp2
          go_returns
          exact Ret.mk HLE.out HS8.out rfl
        · have hxl : ∃ g o, B = some ⟨g, o, none⟩ ∧ W8.cell? ⟨g, o + (12 + pl.length + n), none⟩ = some (.int .u8 ((n : Int) + 1)) := by
            obtain ⟨g, o, e, hcell⟩ := HLB.out.at (by rw [HL.out]; omega)
            refine ⟨g, o, e, ?_⟩
            have h := hcell _ _ HS8.out (12 + pl.length + n) (by rw [HL.out]; omega)
            rw [h, buildL_last]
            have e : (UInt8.ofNat (n + 1)).toNat = n + 1 := by rw [UInt8.toNat_ofNat']; exact Nat.mod_eq_of_lt (by omega)
            rw [e]
            rfl
          obtain ⟨g, o, rfl, hxl⟩ := hxl
          obtain ⟨hcZ, hfZ, hltZ⟩ := Blk.all (HS8.out.at 0 rfl)
          have hq1 : ((n : Int) + 1 == 0) = false := by rw [beq_eq_false_iff_ne]; omega
          go_wp2
          go_returns
          exact Ret.mk HLE.out HS8.out rfl
end Go.Proofs.YtalmnbpljeaeaaaDoor
