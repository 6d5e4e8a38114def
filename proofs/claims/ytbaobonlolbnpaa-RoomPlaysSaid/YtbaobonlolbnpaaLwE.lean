/- rostrumlaw23.RoomPlays. -/
import Derived.Test.YtbaobonlolbnpaaLwA
import Derived.Test.YtbaobonlolbnpaaLwD
namespace Go.Proofs.Ytbaobonlolbnpaa
open Go.RowKit
set_option linter.unusedSimpArgs false

set_option maxRecDepth 8000 in
set_option maxHeartbeats 16000000 in
theorem law6 (I : Img) (M : List Res) (w : World) (A : Option Addr) (c : Nat) (os : List OpV) (name : ByteArray) (n : Int) (hst : St I M w) (ho : OpsAt I A os) (hl : os.length ≤ 140737488351232) :
    Calls Try.prog 6 #[.slice A os.length c, .string name, .int .i64 n] w (Ret I TrueV) := by
  have HS := Lib.hid hst
  have HO := Lib.hid ho
  clear hst ho
  go_enter Try.func6, Try.ntmps6
  go_wp2_with fail
  refine (awakeC I M _ HS.out).mono ?_
  rintro e w1 ⟨_, _, M, rfl, _, hs, rfl, rfl, rfl⟩
  replace HS := Lib.hid hs
  clear hs
  go_wp2_with fail
  refine (newC I M _ HS.out).mono ?_
  clear HS
  rintro e w1 ⟨_, _, _, rfl, _, hs, rfl, p, rfl, rfl⟩
  have HS := Lib.hid hs
  clear hs
  go_wp2_with fail
  refine (newR I _ _ HS.out).mono ?_
  clear HS
  rintro e w1 ⟨_, _, _, rfl, _, hs, rfl, q, rfl, rfl⟩
  have HS := Lib.hid hs.flip4
  clear hs
  go_upto_region 5 with fail
  go_loopw [21] (fun iv wr => ∃ (i : Nat), i ≤ os.length ∧ i ≤ 200 ∧ iv = .int .i64 i ∧ Hid (∃ vM vT vS uM uT uS, St I (two p q (hoAt os i) vM vT vS uM uT uS M) wr)) (fun iv _ => os.length - (intOf iv).toNat)
  case atStart => exact ⟨0, by omega, by omega, rfl, _, _, _, _, _, _, HS.out⟩
  case round =>
    obtain ⟨i, hi, hi200, rfl, hh⟩ := hrel
    obtain ⟨vM, vT, vS, uM, uT, uS, hs⟩ := hh.out
    clear hh HS
    have HIV := Lib.hid (hoAt_inv os i)
    have HSZ := Lib.hid (hoAt_sz os i)
    by_cases hlt : i < os.length
    · obtain ⟨g, o0, rfl, hcell⟩ := HO.out.1 (by omega)
      have hok := HO.out.2 os[i] (List.getElem_mem hlt)
      have hop := hcell i hlt
      have hnx := hoAt_succ hlt
      obtain ⟨x, hx⟩ : ∃ x, x = os[i] := ⟨_, rfl⟩
      obtain ⟨b, hb⟩ : ∃ b, b = o0 + i * 9 := ⟨_, rfl⟩
      rw [← hx] at hok hop hnx
      rw [← hb] at hop
      obtain ⟨y0, y1, y2, y3, y4, y5, y6, y7, y8⟩ := op_cells hop hs
      have HOK := Lib.hid hok
      have HNX := Lib.hid hnx
      have hbi : o0 + i * 9 = b := hb.symm
      have HB := Lib.hid (hs.alloc 32 (opC x)).dn8
      clear hx hb hok hnx hcell hop hs
      by_cases h200 : 200 ≤ i
      · have h201 : (200 : Int) ≤ i := by omega
        have HX := Lib.hid HB.out.up8.drop
        clear HB
        go_upto_region 12 with fail
        clear y0 y1 y2 y3 y4 y5 y6 y7 y8 hbi
        obtain ⟨h, hh9⟩ : ∃ h, h = hoAt os i := ⟨_, rfl⟩
        have HX9 := Lib.hid (show St I (two p q h vM vT vS uM uT uS (M)) _ by rw [hh9]; exact HX.out)
        have HI9 := Lib.hid (show Inv h by rw [hh9]; exact HIV.out)
        have hsz9 : Sz h 1000 := by rw [hh9]; exact HSZ.out.mono (by omega)
        have hms := hsz9.ms
        have hss := hsz9.ss
        have hms1 : h.ms.length ≤ 1000000 := by omega
        have hss1 : h.ss.length ≤ 1000000 := by omega
        have hmsb : h.ms.length ≤ 140737488351232 := by omega
        obtain ⟨rn, re, hrn⟩ : ∃ a b, roomS h n = (a, b) := ⟨_, _, rfl⟩
        obtain ⟨rg, hrg⟩ : ∃ rg, rg = rightsS h n := ⟨_, rfl⟩
        obtain ⟨sl, hsl⟩ : ∃ sl, sl = subsS h n := ⟨_, rfl⟩
        have hs1 := roomC I _ _ p h _ _ _ n HX9.out hmsb
        have hs2 := roomR I _ _ q h _ _ _ n HX9.out.flip4 hms1
        have hs3 := rightsC I _ _ p h _ _ _ n HX9.out hmsb
        have hs4 := rightsR I _ _ q h _ _ _ n HX9.out.flip4 hms1
        have hs5 := subsC I _ _ p h _ _ _ n HX9.out hss1
        rw [hrn] at hs1 hs2
        rw [← hrg] at hs3 hs4
        rw [← hsl] at hs5
        have HSL := Lib.hid hsl
        clear hh9 hrn hrg hsl
        go_wp2_with (first | (go_at_call 14; refine hs1.mono ?_; clear hs1; rintro e w2 ⟨hw2, rfl⟩; subst w2) | (go_at_call 20; refine hs2.mono ?_; clear hs2; rintro e w2 ⟨rfl, hw2⟩; subst w2) | (go_at_call 18; refine hs3.mono ?_; clear hs3; rintro e w2 ⟨hw2, rfl⟩; subst w2) | (go_at_call 21; refine hs4.mono ?_; clear hs4; rintro e w2 ⟨rfl, hw2⟩; subst w2) | (go_at_call 16; refine hs5.mono ?_; clear hs5; rintro e w2 ⟨_, _, _, rfl, _, hs, rfl, A5, c5, rfl, rfl⟩; have HX5 := Lib.hid hs.dn8; clear hs) | (go_at_call 22; refine (subsR I _ _ q h _ _ _ n HX5.out.flip4 hss1).mono ?_; rw [← HSL.out]; rintro e w2 ⟨_, _, _, rfl, _, hs, rfl, A6, c6, rfl, rfl⟩; have HX6 := Lib.hid hs; clear hs))
        go_returns
        exact Ret.mk (.refl I) HX6.out rfl
      · have h199 : (i : Int) < 200 := by omega
        have HI2 := Lib.hid (hoAt_inv os (i + 1))
        have HZ2 := Lib.hid ((hoAt_sz os (i + 1)).mono (show i + 1 ≤ 1000000 by omega))
        obtain ⟨hc, _, hl9⟩ := Blk.all (HB.out.at 8 rfl)
        go_upto_region 9 with fail
        clear y0 y1 y2 y3 y4 y5 y6 y7 y8 hbi h200
        go_wp2_with (first | (go_at_call 10; refine (playC I _ _ p q i (hoAt os i) (hoAt os i) _ _ _ _ _ _ x HB.out HIV.out HIV.out HSZ.out HSZ.out (by omega) HOK.out).mono ?_; rintro e w2 ⟨_, _, _, rfl, _, hs, rfl, rfl, vM, vT, vS, uM, uT, uS, rfl⟩; rw [← HNX.out] at hs; replace HB := Lib.hid hs; clear hs hc hl9; obtain ⟨hc, _, hl9⟩ := Blk.all (HB.out.at 8 rfl)) | (go_at_call 19; refine (sameC I _ _ p q (hoAt os (i + 1)) _ _ _ _ _ _ _ HB.out HI2.out HZ2.out).mono ?_; rintro e w2 ⟨_, _, _, rfl, _, hs, rfl, rfl, rfl⟩; replace HB := Lib.hid hs; clear hs hc hl9; obtain ⟨hc, _, hl9⟩ := Blk.all (HB.out.at 8 rfl)))
        have HX := Lib.hid HB.out.up8.drop
        go_roundw
        case rel => exact ⟨i + 1, by omega, by omega, by go_num, _, _, _, _, _, _, HX.out⟩
        case measure => simp [intOf]; omega
    · have hi2 : (os.length : Int) ≤ i := by omega
      obtain ⟨h, hh9⟩ : ∃ h, h = hoAt os i := ⟨_, rfl⟩
      have HX9 := Lib.hid (show St I (two p q h vM vT vS uM uT uS (M)) _ by rw [hh9]; exact hs)
      have HI9 := Lib.hid (show Inv h by rw [hh9]; exact HIV.out)
      have hsz9 : Sz h 1000 := by rw [hh9]; exact HSZ.out.mono (by omega)
      have hms := hsz9.ms
      have hss := hsz9.ss
      have hms1 : h.ms.length ≤ 1000000 := by omega
      have hss1 : h.ss.length ≤ 1000000 := by omega
      have hmsb : h.ms.length ≤ 140737488351232 := by omega
      obtain ⟨rn, re, hrn⟩ : ∃ a b, roomS h n = (a, b) := ⟨_, _, rfl⟩
      obtain ⟨rg, hrg⟩ : ∃ rg, rg = rightsS h n := ⟨_, rfl⟩
      obtain ⟨sl, hsl⟩ : ∃ sl, sl = subsS h n := ⟨_, rfl⟩
      have hs1 := roomC I _ _ p h _ _ _ n HX9.out hmsb
      have hs2 := roomR I _ _ q h _ _ _ n HX9.out.flip4 hms1
      have hs3 := rightsC I _ _ p h _ _ _ n HX9.out hmsb
      have hs4 := rightsR I _ _ q h _ _ _ n HX9.out.flip4 hms1
      have hs5 := subsC I _ _ p h _ _ _ n HX9.out hss1
      rw [hrn] at hs1 hs2
      rw [← hrg] at hs3 hs4
      rw [← hsl] at hs5
      have HSL := Lib.hid hsl
      clear hh9 hrn hrg hsl
      go_wp2_with (first | (go_at_call 14; refine hs1.mono ?_; clear hs1; rintro e w2 ⟨hw2, rfl⟩; subst w2) | (go_at_call 20; refine hs2.mono ?_; clear hs2; rintro e w2 ⟨rfl, hw2⟩; subst w2) | (go_at_call 18; refine hs3.mono ?_; clear hs3; rintro e w2 ⟨hw2, rfl⟩; subst w2) | (go_at_call 21; refine hs4.mono ?_; clear hs4; rintro e w2 ⟨rfl, hw2⟩; subst w2) | (go_at_call 16; refine hs5.mono ?_; clear hs5; rintro e w2 ⟨_, _, _, rfl, _, hs, rfl, A5, c5, rfl, rfl⟩; have HX5 := Lib.hid hs.dn8; clear hs) | (go_at_call 22; refine (subsR I _ _ q h _ _ _ n HX5.out.flip4 hss1).mono ?_; rw [← HSL.out]; rintro e w2 ⟨_, _, _, rfl, _, hs, rfl, A6, c6, rfl, rfl⟩; have HX6 := Lib.hid hs; clear hs))
      go_returns
      exact Ret.mk (.refl I) HX6.out rfl
end Go.Proofs.Ytbaobonlolbnpaa

