/- part. -/
import Derived.Test.YtddopbbmgpnjjaaZT30
import Derived.Test.YtddopbbmgpnjjaaZT31
import Derived.Test.YtddopbbmgpnjjaaZT32
import Derived.Test.YtddopbbmgpnjjaaZT33
import Derived.Test.YtddopbbmgpnjjaaZT20
namespace Go.Proofs.Ytddopbbmgpnjjaa
set_option linter.unusedSimpArgs false
open Go.RowKit
set_option maxRecDepth 10000 in
set_option maxHeartbeats 4000000 in
theorem buildP (I : Zh) (M : List Zt) (w : World) (kind : Int) (ZA : Int) (ZC : Int) (ZN : Int) (ZP : Int) (ZI : Int) (ZJ : Int) (base : Int) (ref : Int) (count : Int) (name : ByteArray) (ZE : List Rp) (ZG ZH ZF : List Int) (ZB : List Wn) (rA : Option Addr) (rz : Nat) (sA : Option Addr) (sz : Nat) (qA : Option Addr) (qz : Nat) (aA : Option Addr) (az : Nat) (wA : Option Addr) (wz : Nat) (cr : Cells I rA (flat Yt ZE)) (cs : Cells I sA (flat Xd ZG)) (cq : Cells I qA (flat Yp ZH)) (ca : Cells I aA (flat XC ZF)) (cw : Cells I wA (flat WO ZB)) (hok : Y6 (⟨kind, ZA, ZC, ZN, ZP, ZI, ZJ, ZE, name, ZG, ZH, base, ref, count, ZF, ZB⟩ : Pk)) (hg : Good (⟨kind, ZA, ZC, ZN, ZP, ZI, ZJ, ZE, name, ZG, ZH, base, ref, count, ZF, ZB⟩ : Pk)) (ZX : St I M w) :
  Calls Try.prog 18 #[.agg #[.int .i64 kind, .int .u32 ZA, .int .u32 ZC, .int .u64 ZN, .int .u32 ZP, .int .u32 ZI, .int .u32 ZJ, .slice rA ZE.length rz, .string name, .slice sA ZG.length sz, .slice qA ZH.length qz, .int .u16 base, .int .u32 ref, .int .u8 count, .slice aA ZF.length az, .slice wA ZB.length wz]] w (Bui I M (⟨kind, ZA, ZC, ZN, ZP, ZI, ZJ, ZE, name, ZG, ZH, base, ref, count, ZF, ZB⟩ : Pk)) := by
 have hk : kind = 1 \/ kind = 2 \/ kind = 3 \/ kind = 4 \/ kind = 5 \/ kind = 6 \/ kind = 7 \/ kind = 8 := by
  rcases hg.1 with ⟨h | h, _⟩ | ⟨h, _⟩ | ⟨h, _⟩ | ⟨h, _⟩ | ⟨h, _⟩ | h | ⟨h, _⟩ <;> simp only [] at h <;> simp [h]
 rcases hk with rfl | rfl | rfl | rfl | rfl | rfl | rfl | rfl
 ·exact build1 I M w ZA ZC ZN ZP ZI ZJ base ref count name ZE ZG ZH ZF ZB rA rz sA sz qA qz aA az wA wz cr cs cq ca cw hok hg ZX
 ·exact build2 I M w ZA ZC ZN ZP ZI ZJ base ref count name ZE ZG ZH ZF ZB rA rz sA sz qA qz aA az wA wz cr cs cq ca cw hok hg ZX
 ·exact build3 I M w ZA ZC ZN ZP ZI ZJ base ref count name ZE ZG ZH ZF ZB rA rz sA sz qA qz aA az wA wz cr cs cq ca cw hok hg ZX
 ·exact build4 I M w ZA ZC ZN ZP ZI ZJ base ref count name ZE ZG ZH ZF ZB rA rz sA sz qA qz aA az wA wz cr cs cq ca cw hok hg ZX
 ·exact build5 I M w ZA ZC ZN ZP ZI ZJ base ref count name ZE ZG ZH ZF ZB rA rz sA sz qA qz aA az wA wz cr cs cq ca cw hok hg ZX
 ·exact build6 I M w ZA ZC ZN ZP ZI ZJ base ref count name ZE ZG ZH ZF ZB rA rz sA sz qA qz aA az wA wz cr cs cq ca cw hok hg ZX
 ·exact build7 I M w ZA ZC ZN ZP ZI ZJ base ref count name ZE ZG ZH ZF ZB rA rz sA sz qA qz aA az wA wz cr cs cq ca cw hok hg ZX
 exact build8 I M w ZA ZC ZN ZP ZI ZJ base ref count name ZE ZG ZH ZF ZB rA rz sA sz qA qz aA az wA wz cr cs cq ca cw hok hg ZX
set_option maxRecDepth 100000 in
set_option maxHeartbeats 20000000 in
theorem refBuildC (I : Zh) (M : List Zt) (w : World) (A : Option Addr) (z : Nat) (ps : List (Pk × Vs)) (hp : Pks I A ps) (ZX : St I M w) :
  Calls Try.prog 10 #[.slice A ps.length z] w (YR I (fun v _ M' => XI M (Yo ps) v M')) := by
 have HP := VL hp
 have HS0 := VL ZX
 have hmost := hp.most
 clear hp ZX
 by_cases hlen0 : 1 <= ps.length
 case neg =>
  have hl1 : (ps.length : Int) < 1 := by omega
  go_enter Try.func10, Try.ntmps10
  go_wp2
  go_returns
  exact YR.mk (.refl I) HS0.out (.inr ⟨Xh.no_len (by simp [Yo]; omega), rfl, rfl⟩)
 have hl1 : ¬ (ps.length : Int) < 1 := by omega
 by_cases hlen : ps.length <= 8
 case neg =>
  have hl2 : (8 : Int) < (ps.length : Int) := by omega
  go_enter Try.func10, Try.ntmps10
  go_wp2
  go_returns
  exact YR.mk (.refl I) HS0.out (.inr ⟨Xh.no_len (by simp [Yo]; omega), rfl, rfl⟩)
 have hl2 : ¬ (8 : Int) < (ps.length : Int) := by omega
 obtain ⟨g, o, rfl, ZK⟩ := flat_get (s := 16) (fun _ => rfl) HP.out.cells (by omega) (by decide)
 obtain ⟨x0, r0, hx0⟩ : ∃ x r, ps = x :: r := by
  cases ps with
  | nil => simp at hlen0
  | cons x r => exact ⟨x, r, rfl⟩
 have z0 : w.cell? ⟨g, o, none⟩ = some (.int .i64 x0.1.kind) := by
  have := ZK _ _ HS0.out 0 (by omega) 0 (by decide)
  subst hx0
  simpa using this
 have HC := VL ZK
 have HX0 := VL hx0
 clear ZK hx0
 obtain ⟨kd, hkd⟩ : ∃ kd, kd = x0.1.kind := ⟨_, rfl⟩
 rw [<- hkd] at z0
 by_cases hk : kd = 1 \/ kd = 2
 case neg =>
  have hk1 : (kd != 1) = true := by rw [bne_iff_ne]; omega
  have hk2 : (kd != 2) = true := by rw [bne_iff_ne]; omega
  have hk3 : (kd == 1) = false := by rw [beq_eq_false_iff_ne]; omega
  have hk4 : (kd == 2) = false := by rw [beq_eq_false_iff_ne]; omega
  have hk5 : kd ≠ 1 := by omega
  have hk6 : kd ≠ 2 := by omega
  have HKD := VL (show ¬ (x0.1.kind = 1 \/ x0.1.kind = 2) by rw [<- hkd]; exact hk)
  clear hkd hk
  go_enter Try.func10, Try.ntmps10
  go_wp2
  go_returns
  exact YR.mk (.refl I) HS0.out (.inr ⟨by rw [HX0.out]; exact Xh.no_head HKD.out, rfl, rfl⟩)
 have HKK := VL (show x0.1.kind = 1 \/ x0.1.kind = 2 by rw [<- hkd]; exact hk)
 have hs : St I (row 5 1 (.slice none 0 0) ([] : List UInt8).length (Z6 []) :: M) w := HS0.out.nil
 have HS := VL hs
 clear hs HS0 hkd
 go_enter Try.func10, Try.ntmps10
 rcases hk with rfl | rfl
 ·skip
  go_upto_region 5 with fail
  clear z0
  go_loopw [4, 30] (fun ov iv wr => ∃ (A : Option Addr) (n c i : Nat), ov = .slice A n c /\ iv = .int .i64 i /\ i <= ps.length /\ n <= 24080 /\ Hid ((∀ p ∈ (Yo ps).take i, Good p) /\ ∃ J, I.le J /\ n = (((Yo ps).take i).flatMap ZV).length /\ St J (row 5 1 (.slice A n c) n (Z6 (((Yo ps).take i).flatMap ZV)) :: M) wr)) (fun _ iv _ => ps.length - (intOf iv).toNat)
  case atStart => exact ⟨none, 0, 0, 0, rfl, rfl, by omega, by omega, VL ⟨fun p hp => by simp at hp, I, .refl I, rfl, HS.out⟩⟩
  case round =>
   obtain ⟨A1, n, c1, i, rfl, rfl, hi, hn, hh⟩ := hrel
   clear HS
   obtain ⟨hall, J, Z5, hne, hs⟩ := hh.out
   clear hh
   have hpl : (Yo ps).length = ps.length := List.length_map ..
   by_cases Z0 : i < ps.length
   ·skip
    have hcl := fun (M' : List Zt) (w' : World) (h : St J M' w') => HC.out _ _ (h.less Z5) i Z0
    have hme := (HP.out.mono Z5).each _ (List.getElem_mem Z0)
    have htk : (Yo ps).take (i + 1) = (Yo ps).take i ++ [ps[i].1] := by rw [List.take_succ_eq_append_getElem (by omega)]; simp [Yo]
    have hmem : ps[i].1 ∈ Yo ps := List.mem_map_of_mem (List.getElem_mem Z0)
    generalize ps[i] = x at hcl hme htk hmem
    obtain ⟨⟨kind, ZA, ZC, ZN, ZP, ZI, ZJ, ZE, name, ZG, ZH, base, ref, count, ZF, ZB⟩, ⟨vr, vs, vq, va, vw⟩⟩ := x
    obtain ⟨⟨hr, hs', hq, ha, hw⟩, Yf⟩ := hme
    dsimp only at hr hs' hq ha hw Yf htk hmem
    obtain ⟨rA, rz, rfl, cr, -⟩ := hr
    obtain ⟨sA, sz, rfl, cs, -⟩ := hs'
    obtain ⟨qA, qz, rfl, cq, -⟩ := hq
    obtain ⟨aA, az, rfl, ca, -⟩ := ha
    obtain ⟨wA, wz, rfl, cw, -⟩ := hw
    have HCLL := VL hcl
    have y0 : wr.cell? ⟨g, o + i * 16, none⟩ = some (.int .i64 kind) := HCLL.out _ _ hs 0 (by decide)
    have y1 : wr.cell? ⟨g, o + i * 16 + 1, none⟩ = some (.int .u32 ZA) := HCLL.out _ _ hs 1 (by decide)
    have y2 : wr.cell? ⟨g, o + i * 16 + 2, none⟩ = some (.int .u32 ZC) := HCLL.out _ _ hs 2 (by decide)
    have y3 : wr.cell? ⟨g, o + i * 16 + 3, none⟩ = some (.int .u64 ZN) := HCLL.out _ _ hs 3 (by decide)
    have y4 : wr.cell? ⟨g, o + i * 16 + 4, none⟩ = some (.int .u32 ZP) := HCLL.out _ _ hs 4 (by decide)
    have y5 : wr.cell? ⟨g, o + i * 16 + 5, none⟩ = some (.int .u32 ZI) := HCLL.out _ _ hs 5 (by decide)
    have y6 : wr.cell? ⟨g, o + i * 16 + 6, none⟩ = some (.int .u32 ZJ) := HCLL.out _ _ hs 6 (by decide)
    have y7 : wr.cell? ⟨g, o + i * 16 + 7, none⟩ = some (.slice rA ZE.length rz) := HCLL.out _ _ hs 7 (by decide)
    have y8 : wr.cell? ⟨g, o + i * 16 + 8, none⟩ = some (.string name) := HCLL.out _ _ hs 8 (by decide)
    have y9 : wr.cell? ⟨g, o + i * 16 + 9, none⟩ = some (.slice sA ZG.length sz) := HCLL.out _ _ hs 9 (by decide)
    have y10 : wr.cell? ⟨g, o + i * 16 + 10, none⟩ = some (.slice qA ZH.length qz) := HCLL.out _ _ hs 10 (by decide)
    have y11 : wr.cell? ⟨g, o + i * 16 + 11, none⟩ = some (.int .u16 base) := HCLL.out _ _ hs 11 (by decide)
    have y12 : wr.cell? ⟨g, o + i * 16 + 12, none⟩ = some (.int .u32 ref) := HCLL.out _ _ hs 12 (by decide)
    have y13 : wr.cell? ⟨g, o + i * 16 + 13, none⟩ = some (.int .u8 count) := HCLL.out _ _ hs 13 (by decide)
    have y14 : wr.cell? ⟨g, o + i * 16 + 14, none⟩ = some (.slice aA ZF.length az) := HCLL.out _ _ hs 14 (by decide)
    have y15 : wr.cell? ⟨g, o + i * 16 + 15, none⟩ = some (.slice wA ZB.length wz) := HCLL.out _ _ hs 15 (by decide)
    have HG := VL (goodR J _ _ kind ZA ZC ZN ZP ZI ZJ base ref count name ZE ZG ZH ZF ZB rA rz sA sz qA qz aA az wA wz cr Yf.lr (fun x hx => (Yf.ZE x hx).total) cq Yf.lq ca Yf.la Yf.ln cs Yf.ls cw Yf.lw Yf.ref hs)
    have HR := VL (And.intro Yf (And.intro htk (And.intro hmem hall)))
    have HCC := VL (And.intro cr (And.intro cs (And.intro cq (And.intro ca cw))))
    have HLE := VL Z5
    have HNE := VL hne
    clear hs Yf htk hmem hall cr cs cq ca cw Z5 hcl hne
    go_wp2_with fail
    go_at_call 17
    refine HG.out.mono ?_
    clear HG y0 y1 y2 y3 y4 y5 y6 y7 y8 y9 y10 y11 y12 y13 y14 y15
    rintro e w2 ⟨_, _, _, rfl, _, hs, rfl, rfl, rfl⟩
    have y0 : w2.cell? ⟨g, o + i * 16, none⟩ = some (.int .i64 kind) := HCLL.out _ _ hs 0 (by decide)
    have y1 : w2.cell? ⟨g, o + i * 16 + 1, none⟩ = some (.int .u32 ZA) := HCLL.out _ _ hs 1 (by decide)
    have y2 : w2.cell? ⟨g, o + i * 16 + 2, none⟩ = some (.int .u32 ZC) := HCLL.out _ _ hs 2 (by decide)
    have y3 : w2.cell? ⟨g, o + i * 16 + 3, none⟩ = some (.int .u64 ZN) := HCLL.out _ _ hs 3 (by decide)
    have y4 : w2.cell? ⟨g, o + i * 16 + 4, none⟩ = some (.int .u32 ZP) := HCLL.out _ _ hs 4 (by decide)
    have y5 : w2.cell? ⟨g, o + i * 16 + 5, none⟩ = some (.int .u32 ZI) := HCLL.out _ _ hs 5 (by decide)
    have y6 : w2.cell? ⟨g, o + i * 16 + 6, none⟩ = some (.int .u32 ZJ) := HCLL.out _ _ hs 6 (by decide)
    have y7 : w2.cell? ⟨g, o + i * 16 + 7, none⟩ = some (.slice rA ZE.length rz) := HCLL.out _ _ hs 7 (by decide)
    have y8 : w2.cell? ⟨g, o + i * 16 + 8, none⟩ = some (.string name) := HCLL.out _ _ hs 8 (by decide)
    have y9 : w2.cell? ⟨g, o + i * 16 + 9, none⟩ = some (.slice sA ZG.length sz) := HCLL.out _ _ hs 9 (by decide)
    have y10 : w2.cell? ⟨g, o + i * 16 + 10, none⟩ = some (.slice qA ZH.length qz) := HCLL.out _ _ hs 10 (by decide)
    have y11 : w2.cell? ⟨g, o + i * 16 + 11, none⟩ = some (.int .u16 base) := HCLL.out _ _ hs 11 (by decide)
    have y12 : w2.cell? ⟨g, o + i * 16 + 12, none⟩ = some (.int .u32 ref) := HCLL.out _ _ hs 12 (by decide)
    have y13 : w2.cell? ⟨g, o + i * 16 + 13, none⟩ = some (.int .u8 count) := HCLL.out _ _ hs 13 (by decide)
    have y14 : w2.cell? ⟨g, o + i * 16 + 14, none⟩ = some (.slice aA ZF.length az) := HCLL.out _ _ hs 14 (by decide)
    have y15 : w2.cell? ⟨g, o + i * 16 + 15, none⟩ = some (.slice wA ZB.length wz) := HCLL.out _ _ hs 15 (by decide)
    by_cases hg : Good (⟨kind, ZA, ZC, ZN, ZP, ZI, ZJ, ZE, name, ZG, ZH, base, ref, count, ZF, ZB⟩ : Pk)
    ·skip
     rw [XX hg]
     have HC2 := VL (buildP J _ w2 kind ZA ZC ZN ZP ZI ZJ base ref count name ZE ZG ZH ZF ZB rA rz sA sz qA qz aA az wA wz HCC.out.1 HCC.out.2.1 HCC.out.2.2.1 HCC.out.2.2.2.1 HCC.out.2.2.2.2 (HR.out.1.ok hg) hg hs)
     have HGG := VL hg
     have HPL := VL (pack_len hg)
     clear hs hg
     go_wp2_with fail
     go_at_call 18
     refine HC2.out.mono ?_
     clear HC2 y0 y1 y2 y3 y4 y5 y6 y7 y8 y9 y10 y11 y12 y13 y14 y15
     rintro e w3 ⟨_, J2, _, rfl, Zd, hs, A2, c2, rfl, rfl⟩
     obtain ⟨pbs, hpb⟩ : ∃ z, z = ZV (⟨kind, ZA, ZC, ZN, ZP, ZI, ZJ, ZE, name, ZG, ZH, base, ref, count, ZF, ZB⟩ : Pk) := ⟨_, rfl⟩
     rw [<- hpb] at hs ⊢
     obtain ⟨J3, YL, Zf, hb3⟩ := hs.ZR
     have HB := VL (show Xy pbs (.slice A2 pbs.length c2) J3 from ⟨A2, c2, rfl, hb3⟩)
     obtain ⟨bl, hbe⟩ : ∃ z, z = ((Yo ps).take i).flatMap ZV := ⟨_, rfl⟩
     have hbn : bl.length = n := by rw [hbe]; exact HNE.out.symm
     rw [<- hbe, <- hbn] at Zf
     have HS3 := VL Zf
     have HBE := VL (And.intro hbe (And.intro hbn hpb))
     have HLE3 := VL ((HLE.out.trans Zd).trans YL)
     clear hs Zd YL Zf hb3 hbe hbn hpb
     go_wp2_with (at_builtin; refine Yq rfl _ _ rfl J3 _ _ _ _ _ (by rw [HBE.out.2.1]; rfl) rfl HS3.out HB.out (by have h1 := HPL.out.2; rw [<- HBE.out.2.2] at h1; have h2 := HBE.out.2.1; omega) ?_)
     intro v4 w4 Zv
     obtain ⟨A5, c5, rfl⟩ := ZW (show World.ownsRow _ 0 5 1 v4 _ _ from St.at Zv 0 rfl)
     obtain ⟨n5, hn5⟩ : ∃ n5, n5 = (bl ++ pbs).length := ⟨_, rfl⟩
     have Zo := show St J3 _ w4 from Zv
     rw [<- hn5] at Zo ⊢
     have HFM := VL (show ((Yo ps).take (i + 1)).flatMap ZV = bl ++ pbs by rw [HR.out.2.1, List.flatMap_append, List.flatMap_singleton, HBE.out.1, HBE.out.2.2])
     have HAL := VL (show ∀ p ∈ (Yo ps).take (i + 1), Good p by
      rw [HR.out.2.1]
      intro p hp
      rcases List.mem_append.1 hp with hp | hp
      ·exact HR.out.2.2.2 p hp
      rw [List.mem_singleton.1 hp]; exact HGG.out)
     have hn6 : n5 <= 24080 := by
      rw [hn5, <- HFM.out]
      exact packs_len (n := 8) (by rw [List.length_take]; omega) HAL.out
     have HN5 := VL hn5
     have HS5 := VL Zo
     clear Zv Zo HS3 HB hn5
     go_wp2
     go_roundw
     case rel => exact ⟨A5, n5, c5, i + 1, rfl, by go_num, by omega, hn6, VL ⟨HAL.out, J3, HLE3.out, by rw [HFM.out]; exact HN5.out, by rw [HFM.out]; exact HS5.out⟩⟩
     case measure => simp [intOf]; omega
    rw [Xz hg]
    have HF := VL (YR.mk (Q := fun v _ M' => XI M (Yo ps) v M') HLE.out (hs.drop) (show XI M (Yo ps) _ _ from .inr ⟨Xh.no_good HR.out.2.2.1 hg, rfl, rfl⟩))
    clear hs hg
    go_wp2
    go_returns
    exact HF.out
   have hin : i = ps.length := by omega
   rw [List.take_of_length_le (by omega)] at hs hall hne
   subst hin
   obtain ⟨bl, hbe⟩ : ∃ z, z = (Yo ps).flatMap ZV := ⟨_, rfl⟩
   rw [<- hbe] at hs hne
   by_cases hm : n <= 1500
   ·have HF := VL (YR.mk (Q := fun v _ M' => XI M (Yo ps) v M') Z5 hs (show XI M (Yo ps) _ _ from .inl ⟨⟨⟨by omega, by omega⟩, ⟨x0.1, Yo r0, by rw [HX0.out]; rfl, HKK.out⟩, hall, by rw [<- hbe, <- hne]; exact hm⟩, _, rfl, by rw [<- hbe, <- hne]⟩))
    clear hs hbe hne hall
    go_wp2
    go_returns
    exact HF.out
   have HF := VL (YR.mk (Q := fun v _ M' => XI M (Yo ps) v M') Z5 hs.drop (show XI M (Yo ps) _ _ from .inr ⟨Xh.no_most (by rw [<- hbe, <- hne]; exact hm), rfl, rfl⟩))
   have hm2 : (1500 : Int) < (n : Int) := by omega
   clear hs hbe hne hall
   go_wp2
   go_returns
   exact HF.out
 go_upto_region 5 with fail
 clear z0
 go_loopw [4, 30] (fun ov iv wr => ∃ (A : Option Addr) (n c i : Nat), ov = .slice A n c /\ iv = .int .i64 i /\ i <= ps.length /\ n <= 24080 /\ Hid ((∀ p ∈ (Yo ps).take i, Good p) /\ ∃ J, I.le J /\ n = (((Yo ps).take i).flatMap ZV).length /\ St J (row 5 1 (.slice A n c) n (Z6 (((Yo ps).take i).flatMap ZV)) :: M) wr)) (fun _ iv _ => ps.length - (intOf iv).toNat)
 case atStart => exact ⟨none, 0, 0, 0, rfl, rfl, by omega, by omega, VL ⟨fun p hp => by simp at hp, I, .refl I, rfl, HS.out⟩⟩
 case round =>
  obtain ⟨A1, n, c1, i, rfl, rfl, hi, hn, hh⟩ := hrel
  clear HS
  obtain ⟨hall, J, Z5, hne, hs⟩ := hh.out
  clear hh
  have hpl : (Yo ps).length = ps.length := List.length_map ..
  by_cases Z0 : i < ps.length
  ·skip
   have hcl := fun (M' : List Zt) (w' : World) (h : St J M' w') => HC.out _ _ (h.less Z5) i Z0
   have hme := (HP.out.mono Z5).each _ (List.getElem_mem Z0)
   have htk : (Yo ps).take (i + 1) = (Yo ps).take i ++ [ps[i].1] := by rw [List.take_succ_eq_append_getElem (by omega)]; simp [Yo]
   have hmem : ps[i].1 ∈ Yo ps := List.mem_map_of_mem (List.getElem_mem Z0)
   generalize ps[i] = x at hcl hme htk hmem
   obtain ⟨⟨kind, ZA, ZC, ZN, ZP, ZI, ZJ, ZE, name, ZG, ZH, base, ref, count, ZF, ZB⟩, ⟨vr, vs, vq, va, vw⟩⟩ := x
   obtain ⟨⟨hr, hs', hq, ha, hw⟩, Yf⟩ := hme
   dsimp only at hr hs' hq ha hw Yf htk hmem
   obtain ⟨rA, rz, rfl, cr, -⟩ := hr
   obtain ⟨sA, sz, rfl, cs, -⟩ := hs'
   obtain ⟨qA, qz, rfl, cq, -⟩ := hq
   obtain ⟨aA, az, rfl, ca, -⟩ := ha
   obtain ⟨wA, wz, rfl, cw, -⟩ := hw
   have HCLL := VL hcl
   have y0 : wr.cell? ⟨g, o + i * 16, none⟩ = some (.int .i64 kind) := HCLL.out _ _ hs 0 (by decide)
   have y1 : wr.cell? ⟨g, o + i * 16 + 1, none⟩ = some (.int .u32 ZA) := HCLL.out _ _ hs 1 (by decide)
   have y2 : wr.cell? ⟨g, o + i * 16 + 2, none⟩ = some (.int .u32 ZC) := HCLL.out _ _ hs 2 (by decide)
   have y3 : wr.cell? ⟨g, o + i * 16 + 3, none⟩ = some (.int .u64 ZN) := HCLL.out _ _ hs 3 (by decide)
   have y4 : wr.cell? ⟨g, o + i * 16 + 4, none⟩ = some (.int .u32 ZP) := HCLL.out _ _ hs 4 (by decide)
   have y5 : wr.cell? ⟨g, o + i * 16 + 5, none⟩ = some (.int .u32 ZI) := HCLL.out _ _ hs 5 (by decide)
   have y6 : wr.cell? ⟨g, o + i * 16 + 6, none⟩ = some (.int .u32 ZJ) := HCLL.out _ _ hs 6 (by decide)
   have y7 : wr.cell? ⟨g, o + i * 16 + 7, none⟩ = some (.slice rA ZE.length rz) := HCLL.out _ _ hs 7 (by decide)
   have y8 : wr.cell? ⟨g, o + i * 16 + 8, none⟩ = some (.string name) := HCLL.out _ _ hs 8 (by decide)
   have y9 : wr.cell? ⟨g, o + i * 16 + 9, none⟩ = some (.slice sA ZG.length sz) := HCLL.out _ _ hs 9 (by decide)
   have y10 : wr.cell? ⟨g, o + i * 16 + 10, none⟩ = some (.slice qA ZH.length qz) := HCLL.out _ _ hs 10 (by decide)
   have y11 : wr.cell? ⟨g, o + i * 16 + 11, none⟩ = some (.int .u16 base) := HCLL.out _ _ hs 11 (by decide)
   have y12 : wr.cell? ⟨g, o + i * 16 + 12, none⟩ = some (.int .u32 ref) := HCLL.out _ _ hs 12 (by decide)
   have y13 : wr.cell? ⟨g, o + i * 16 + 13, none⟩ = some (.int .u8 count) := HCLL.out _ _ hs 13 (by decide)
   have y14 : wr.cell? ⟨g, o + i * 16 + 14, none⟩ = some (.slice aA ZF.length az) := HCLL.out _ _ hs 14 (by decide)
   have y15 : wr.cell? ⟨g, o + i * 16 + 15, none⟩ = some (.slice wA ZB.length wz) := HCLL.out _ _ hs 15 (by decide)
   have HG := VL (goodR J _ _ kind ZA ZC ZN ZP ZI ZJ base ref count name ZE ZG ZH ZF ZB rA rz sA sz qA qz aA az wA wz cr Yf.lr (fun x hx => (Yf.ZE x hx).total) cq Yf.lq ca Yf.la Yf.ln cs Yf.ls cw Yf.lw Yf.ref hs)
   have HR := VL (And.intro Yf (And.intro htk (And.intro hmem hall)))
   have HCC := VL (And.intro cr (And.intro cs (And.intro cq (And.intro ca cw))))
   have HLE := VL Z5
   have HNE := VL hne
   clear hs Yf htk hmem hall cr cs cq ca cw Z5 hcl hne
   go_wp2_with fail
   go_at_call 17
   refine HG.out.mono ?_
   clear HG y0 y1 y2 y3 y4 y5 y6 y7 y8 y9 y10 y11 y12 y13 y14 y15
   rintro e w2 ⟨_, _, _, rfl, _, hs, rfl, rfl, rfl⟩
   have y0 : w2.cell? ⟨g, o + i * 16, none⟩ = some (.int .i64 kind) := HCLL.out _ _ hs 0 (by decide)
   have y1 : w2.cell? ⟨g, o + i * 16 + 1, none⟩ = some (.int .u32 ZA) := HCLL.out _ _ hs 1 (by decide)
   have y2 : w2.cell? ⟨g, o + i * 16 + 2, none⟩ = some (.int .u32 ZC) := HCLL.out _ _ hs 2 (by decide)
   have y3 : w2.cell? ⟨g, o + i * 16 + 3, none⟩ = some (.int .u64 ZN) := HCLL.out _ _ hs 3 (by decide)
   have y4 : w2.cell? ⟨g, o + i * 16 + 4, none⟩ = some (.int .u32 ZP) := HCLL.out _ _ hs 4 (by decide)
   have y5 : w2.cell? ⟨g, o + i * 16 + 5, none⟩ = some (.int .u32 ZI) := HCLL.out _ _ hs 5 (by decide)
   have y6 : w2.cell? ⟨g, o + i * 16 + 6, none⟩ = some (.int .u32 ZJ) := HCLL.out _ _ hs 6 (by decide)
   have y7 : w2.cell? ⟨g, o + i * 16 + 7, none⟩ = some (.slice rA ZE.length rz) := HCLL.out _ _ hs 7 (by decide)
   have y8 : w2.cell? ⟨g, o + i * 16 + 8, none⟩ = some (.string name) := HCLL.out _ _ hs 8 (by decide)
   have y9 : w2.cell? ⟨g, o + i * 16 + 9, none⟩ = some (.slice sA ZG.length sz) := HCLL.out _ _ hs 9 (by decide)
   have y10 : w2.cell? ⟨g, o + i * 16 + 10, none⟩ = some (.slice qA ZH.length qz) := HCLL.out _ _ hs 10 (by decide)
   have y11 : w2.cell? ⟨g, o + i * 16 + 11, none⟩ = some (.int .u16 base) := HCLL.out _ _ hs 11 (by decide)
   have y12 : w2.cell? ⟨g, o + i * 16 + 12, none⟩ = some (.int .u32 ref) := HCLL.out _ _ hs 12 (by decide)
   have y13 : w2.cell? ⟨g, o + i * 16 + 13, none⟩ = some (.int .u8 count) := HCLL.out _ _ hs 13 (by decide)
   have y14 : w2.cell? ⟨g, o + i * 16 + 14, none⟩ = some (.slice aA ZF.length az) := HCLL.out _ _ hs 14 (by decide)
   have y15 : w2.cell? ⟨g, o + i * 16 + 15, none⟩ = some (.slice wA ZB.length wz) := HCLL.out _ _ hs 15 (by decide)
   by_cases hg : Good (⟨kind, ZA, ZC, ZN, ZP, ZI, ZJ, ZE, name, ZG, ZH, base, ref, count, ZF, ZB⟩ : Pk)
   ·skip
    rw [XX hg]
    have HC2 := VL (buildP J _ w2 kind ZA ZC ZN ZP ZI ZJ base ref count name ZE ZG ZH ZF ZB rA rz sA sz qA qz aA az wA wz HCC.out.1 HCC.out.2.1 HCC.out.2.2.1 HCC.out.2.2.2.1 HCC.out.2.2.2.2 (HR.out.1.ok hg) hg hs)
    have HGG := VL hg
    have HPL := VL (pack_len hg)
    clear hs hg
    go_wp2_with fail
    go_at_call 18
    refine HC2.out.mono ?_
    clear HC2 y0 y1 y2 y3 y4 y5 y6 y7 y8 y9 y10 y11 y12 y13 y14 y15
    rintro e w3 ⟨_, J2, _, rfl, Zd, hs, A2, c2, rfl, rfl⟩
    obtain ⟨pbs, hpb⟩ : ∃ z, z = ZV (⟨kind, ZA, ZC, ZN, ZP, ZI, ZJ, ZE, name, ZG, ZH, base, ref, count, ZF, ZB⟩ : Pk) := ⟨_, rfl⟩
    rw [<- hpb] at hs ⊢
    obtain ⟨J3, YL, Zf, hb3⟩ := hs.ZR
    have HB := VL (show Xy pbs (.slice A2 pbs.length c2) J3 from ⟨A2, c2, rfl, hb3⟩)
    obtain ⟨bl, hbe⟩ : ∃ z, z = ((Yo ps).take i).flatMap ZV := ⟨_, rfl⟩
    have hbn : bl.length = n := by rw [hbe]; exact HNE.out.symm
    rw [<- hbe, <- hbn] at Zf
    have HS3 := VL Zf
    have HBE := VL (And.intro hbe (And.intro hbn hpb))
    have HLE3 := VL ((HLE.out.trans Zd).trans YL)
    clear hs Zd YL Zf hb3 hbe hbn hpb
    go_wp2_with (at_builtin; refine Yq rfl _ _ rfl J3 _ _ _ _ _ (by rw [HBE.out.2.1]; rfl) rfl HS3.out HB.out (by have h1 := HPL.out.2; rw [<- HBE.out.2.2] at h1; have h2 := HBE.out.2.1; omega) ?_)
    intro v4 w4 Zv
    obtain ⟨A5, c5, rfl⟩ := ZW (show World.ownsRow _ 0 5 1 v4 _ _ from St.at Zv 0 rfl)
    obtain ⟨n5, hn5⟩ : ∃ n5, n5 = (bl ++ pbs).length := ⟨_, rfl⟩
    have Zo := show St J3 _ w4 from Zv
    rw [<- hn5] at Zo ⊢
    have HFM := VL (show ((Yo ps).take (i + 1)).flatMap ZV = bl ++ pbs by rw [HR.out.2.1, List.flatMap_append, List.flatMap_singleton, HBE.out.1, HBE.out.2.2])
    have HAL := VL (show ∀ p ∈ (Yo ps).take (i + 1), Good p by
     rw [HR.out.2.1]
     intro p hp
     rcases List.mem_append.1 hp with hp | hp
     ·exact HR.out.2.2.2 p hp
     rw [List.mem_singleton.1 hp]; exact HGG.out)
    have hn6 : n5 <= 24080 := by
     rw [hn5, <- HFM.out]
     exact packs_len (n := 8) (by rw [List.length_take]; omega) HAL.out
    have HN5 := VL hn5
    have HS5 := VL Zo
    clear Zv Zo HS3 HB hn5
    go_wp2
    go_roundw
    case rel => exact ⟨A5, n5, c5, i + 1, rfl, by go_num, by omega, hn6, VL ⟨HAL.out, J3, HLE3.out, by rw [HFM.out]; exact HN5.out, by rw [HFM.out]; exact HS5.out⟩⟩
    case measure => simp [intOf]; omega
   rw [Xz hg]
   have HF := VL (YR.mk (Q := fun v _ M' => XI M (Yo ps) v M') HLE.out (hs.drop) (show XI M (Yo ps) _ _ from .inr ⟨Xh.no_good HR.out.2.2.1 hg, rfl, rfl⟩))
   clear hs hg
   go_wp2
   go_returns
   exact HF.out
  have hin : i = ps.length := by omega
  rw [List.take_of_length_le (by omega)] at hs hall hne
  subst hin
  obtain ⟨bl, hbe⟩ : ∃ z, z = (Yo ps).flatMap ZV := ⟨_, rfl⟩
  rw [<- hbe] at hs hne
  by_cases hm : n <= 1500
  ·have HF := VL (YR.mk (Q := fun v _ M' => XI M (Yo ps) v M') Z5 hs (show XI M (Yo ps) _ _ from .inl ⟨⟨⟨by omega, by omega⟩, ⟨x0.1, Yo r0, by rw [HX0.out]; rfl, HKK.out⟩, hall, by rw [<- hbe, <- hne]; exact hm⟩, _, rfl, by rw [<- hbe, <- hne]⟩))
   clear hs hbe hne hall
   go_wp2
   go_returns
   exact HF.out
  have HF := VL (YR.mk (Q := fun v _ M' => XI M (Yo ps) v M') Z5 hs.drop (show XI M (Yo ps) _ _ from .inr ⟨Xh.no_most (by rw [<- hbe, <- hne]; exact hm), rfl, rfl⟩))
  have hm2 : (1500 : Int) < (n : Int) := by omega
  clear hs hbe hne hall
  go_wp2
  go_returns
  exact HF.out
set_option maxRecDepth 100000 in
set_option maxHeartbeats 20000000 in
theorem read0 (J0 : Zh) (M : List Zt) (w : World) (f s : Int) (p9 : Nat) (r : RS) (b : Zt) (T : Pk -> Prop) (hT : ∀ p, T p -> Good p /\ Y6 p /\ p.kind = 0 /\ r = (YH (Zu p), false)) (hk : XR f s = 0) (hf : 0 <= f /\ f <= 255) (hl : r.1.length <= 2000) (ZX : St J0 (b :: M) w) (hR : Rdr J0 p9 r b) :
  Calls Try.prog 30 #[.int .u8 f, .int .u8 s, .pointer (some ⟨p9, 0, none⟩)] w (RdOk J0 M T) := by
 have HT := VL hT
 have HK := kindC f s (w.alloc (.cells #[.int .i64 0, .int .u32 0, .int .u32 0, .int .u64 0, .int .u32 0, .int .u32 0, .int .u32 0, .slice none 0 0, .string ⟨#[]⟩, .slice none 0 0, .slice none 0 0, .int .u16 0, .int .u32 0, .int .u8 0, .slice none 0 0, .slice none 0 0] 51)) hf
 rw [hk] at HK
 have HK := VL HK
 have HR := VL hR
 have ZY := (ZX.alloc 51 #[.int .i64 0, .int .u32 0, .int .u32 0, .int .u64 0, .int .u32 0, .int .u32 0, .int .u32 0, .slice none 0 0, .string ⟨#[]⟩, .slice none 0 0, .slice none 0 0, .int .u16 0, .int .u32 0, .int .u8 0, .slice none 0 0, .slice none 0 0]).ZQ
 obtain ⟨q, hq⟩ : ∃ q, q = w.heap.size := ⟨_, rfl⟩
 rw [<- hq] at ZY
 have HL := VL hl
 clear hT hk hR ZX hl
 obtain ⟨fs, hd⟩ := st51D
 go_enter Try.func30, Try.ntmps30
 go_upto_region 1 with fail
 rw [<- hq]
 clear hq
 generalize World.alloc w _ = W at ZY HK ⊢
 have HS := VL ZY
 clear ZY
 obtain ⟨hcA, hfA, hlA⟩ := ZO.all (HS.out.at 1 rfl)
 go_wp2_with fail
 go_at_call 61
 refine HK.out.mono ?_
 clear HK
 rintro e w0 ⟨rfl, hw⟩
 subst hw
 have hs9 : St J0 (b :: bk q 51 #[.int .i64 0, .int .u32 0, .int .u32 0, .int .u64 0, .int .u32 0, .int .u32 0, .int .u32 0, .slice none 0 0, .string ⟨#[]⟩, .slice none 0 0, .slice none 0 0, .int .u16 0, .int .u32 0, .int .u8 0, .slice none 0 0, .slice none 0 0] :: M) ((W).setCell ⟨q, 0, none⟩ (.int .i64 0)) := (HS.out.ZQ.set 0 (.int .i64 0)).ZQ
 have HS := VL hs9
 clear hs9
 obtain ⟨hcB, hfB, hlB⟩ := ZO.all (HS.out.at 1 rfl)
 have HC := VL (Y1 (I := J0) p9 r b HS.out HR.out)
 go_wp2_with fail
 go_at_call 62
 refine HC.out.mono ?_
 clear HC HS HR hcA hfA hlA
 try clear hcB hfB hlB
 rintro e w1 ⟨_, _, _, rfl, _, hs, rfl, rfl, b, hR, rfl⟩
 obtain ⟨x1, hx⟩ : ∃ z, z = ((YP (Zl 4 r).1 : Nat) : Int) := ⟨_, rfl⟩
 obtain ⟨r1, hr⟩ : ∃ z, z = (Zl 4 r).2 := ⟨_, rfl⟩
 have Zw := YT 4 r 4 (by decide)
 rw [<- hx] at Zw ⊢
 rw [<- hr] at hR
 obtain ⟨x1a, x1b⟩ := Zw
 have HL := VL (show r1.1.length <= 2000 from (by rw [hr]; exact Nat.le_trans (Ze 4 r) HL.out))
 replace x1b : x1 <= 4294967295 := (by have h9 : ((256 ^ 4 : Nat) : Int) = 4294967296 := (by decide); omega)
 have HXx1 := VL (And.intro hx hr)
 have HS := VL hs
 have HR := VL hR
 clear hx hr hs hR
 obtain ⟨hcA, hfA, hlA⟩ := ZO.all (HS.out.at 1 rfl)
 have hs9 : St J0 (b :: bk q 51 #[.int .i64 0, .int .u32 x1, .int .u32 0, .int .u64 0, .int .u32 0, .int .u32 0, .int .u32 0, .slice none 0 0, .string ⟨#[]⟩, .slice none 0 0, .slice none 0 0, .int .u16 0, .int .u32 0, .int .u8 0, .slice none 0 0, .slice none 0 0] :: M) ((w1).setCell ⟨q, 1, none⟩ (.int .u32 x1)) := (HS.out.ZQ.set 1 (.int .u32 x1)).ZQ
 have HS := VL hs9
 clear hs9
 obtain ⟨hcB, hfB, hlB⟩ := ZO.all (HS.out.at 1 rfl)
 go_upto_region 17 with fail
 generalize World.setCell w1 _ _ = W2 at HS hcB hfB hlB ⊢
 clear hcA hfA hlA
 go_loopw [] (fun wr => wr = W2) (fun _ => 0)
 case atStart => rfl
 case round =>
  have hwr := hrel
  subst hwr
  have HF := VL (show ∀ p, T p -> False from fun p hp => by
   obtain ⟨hg, hok, hk, hr⟩ := HT.out p hp
   have := hg.1
   unfold YF at this
   omega)
  have HLf := VL (Wi (I := J0) p9 r1 b HS.out HR.out)
  have HBd := VL (WY (I := J0) p9 r1 b HS.out HR.out)
  obtain ⟨ln, hln⟩ : ∃ n, n = r1.1.length := ⟨_, rfl⟩
  obtain ⟨bd, hbd⟩ : ∃ x, x = r1.2 := ⟨_, rfl⟩
  rw [<- hln] at HLf
  rw [<- hbd] at HBd
  have HLN := VL (And.intro hln hbd)
  clear hln hbd
  rcases Nat.eq_zero_or_pos ln with h0 | h0
  ·subst h0
   go_upto_region 41 with (go_at_call 25; refine HLf.out.mono ?_; rintro e w3 ⟨rfl, hw⟩; subst hw)
   have hb : ZO wr q 51 #[.int .i64 0, .int .u32 x1, .int .u32 0, .int .u64 0, .int .u32 0, .int .u32 0, .int .u32 0, .slice none 0 0, .string ⟨#[]⟩, .slice none 0 0, .slice none 0 0, .int .u16 0, .int .u32 0, .int .u8 0, .slice none 0 0, .slice none 0 0] := HS.out.at 1 rfl
   have hone : (#[.int .i64 0, .int .u32 x1, .int .u32 0, .int .u64 0, .int .u32 0, .int .u32 0, .int .u32 0, .slice none 0 0, .string ⟨#[]⟩, .slice none 0 0, .slice none 0 0, .int .u16 0, .int .u32 0, .int .u8 0, .slice none 0 0, .slice none 0 0] : Array Value).all (·.oneCell') = true := by kernel_rfl
   have HS6 := VL (HS.out.YS #[.int .i64 0, .int .u32 x1, .int .u32 0, .int .u64 0, .int .u32 0, .int .u32 0, .int .u32 0, .slice none 0 0, .string ⟨#[]⟩, .slice none 0 0, .slice none 0 0, .int .u16 0, .int .u32 0, .int .u8 0, .slice none 0 0, .slice none 0 0])
   go_wp2_with (first | refine wpList_load_row rfl 51 (.tmp 6) rfl q rfl 51 _ (0, 0) _ hb hd rfl Zx ?_ | refine wpList_store_row rfl 51 (.tmp 6) (.tmp _) rfl q #[.int .i64 0, .int .u32 x1, .int .u32 0, .int .u64 0, .int .u32 0, .int .u32 0, .int .u32 0, .slice none 0 0, .string ⟨#[]⟩, .slice none 0 0, .slice none 0 0, .int .u16 0, .int .u32 0, .int .u8 0, .slice none 0 0, .slice none 0 0] rfl rfl 51 _ hb Zx rfl hone ?_)
   refine bodyPost_ret (results_cell_row (p := 6) Try.results30 _ _ q 51 _ (0, 0) _ rfl (HS6.out.at 1 rfl) hd rfl Zx) rfl ?_
   exact ⟨J0, ⟨0, x1, 0, 0, 0, 0, 0, [], ⟨#[]⟩, [], [], 0, 0, 0, [], []⟩, VH, rfl, .refl J0, HS6.out.drop.drop, Xc J0 0 x1 0, XO 0 x1 0 ⟨x1a, x1b⟩ (by decide), .inl rfl, fun p hp => (HF.out p hp).elim⟩
  have h0i : (0 : Int) < (ln : Int) := by omega
  cases bd
  ·skip
   go_upto_region 19 with (first | (go_at_call 25; refine HLf.out.mono ?_; rintro e w3 ⟨rfl, hw⟩; subst hw) | (go_at_call 29; refine HBd.out.mono ?_; rintro e w3 ⟨rfl, hw⟩; subst hw))
   have hb : ZO wr q 51 #[.int .i64 0, .int .u32 x1, .int .u32 0, .int .u64 0, .int .u32 0, .int .u32 0, .int .u32 0, .slice none 0 0, .string ⟨#[]⟩, .slice none 0 0, .slice none 0 0, .int .u16 0, .int .u32 0, .int .u8 0, .slice none 0 0, .slice none 0 0] := HS.out.at 1 rfl
   have hone : (#[.int .i64 0, .int .u32 0, .int .u32 0, .int .u64 0, .int .u32 0, .int .u32 0, .int .u32 0, .slice none 0 0, .string ⟨#[]⟩, .slice none 0 0, .slice none 0 0, .int .u16 0, .int .u32 0, .int .u8 0, .slice none 0 0, .slice none 0 0] : Array Value).all (·.oneCell') = true := by kernel_rfl
   have HS6 := VL (HS.out.YS #[.int .i64 0, .int .u32 0, .int .u32 0, .int .u64 0, .int .u32 0, .int .u32 0, .int .u32 0, .slice none 0 0, .string ⟨#[]⟩, .slice none 0 0, .slice none 0 0, .int .u16 0, .int .u32 0, .int .u8 0, .slice none 0 0, .slice none 0 0])
   go_wp2_with (first | refine wpList_load_row rfl 51 (.tmp 6) rfl q rfl 51 _ (0, 0) _ hb hd rfl Zx ?_ | refine wpList_store_row rfl 51 (.tmp 6) (.tmp _) rfl q #[.int .i64 0, .int .u32 0, .int .u32 0, .int .u64 0, .int .u32 0, .int .u32 0, .int .u32 0, .slice none 0 0, .string ⟨#[]⟩, .slice none 0 0, .slice none 0 0, .int .u16 0, .int .u32 0, .int .u8 0, .slice none 0 0, .slice none 0 0] rfl rfl 51 _ hb Zx rfl hone ?_)
   refine bodyPost_ret (results_cell_row (p := 6) Try.results30 _ _ q 51 _ (0, 0) _ rfl (HS6.out.at 1 rfl) hd rfl Zx) rfl ?_
   refine ⟨J0, ⟨0, 0, 0, 0, 0, 0, 0, [], ⟨#[]⟩, [], [], 0, 0, 0, [], []⟩, VH, rfl, .refl J0, HS6.out.drop.drop, Xc J0 0 0 0, XO 0 0 0 (by decide) (by decide), .inl rfl, fun p hp => ?_⟩
   exact (HF.out p hp).elim
  go_upto_region 41 with (first | (go_at_call 25; refine HLf.out.mono ?_; rintro e w3 ⟨rfl, hw⟩; subst hw) | (go_at_call 29; refine HBd.out.mono ?_; rintro e w3 ⟨rfl, hw⟩; subst hw))
  have hb : ZO wr q 51 #[.int .i64 0, .int .u32 x1, .int .u32 0, .int .u64 0, .int .u32 0, .int .u32 0, .int .u32 0, .slice none 0 0, .string ⟨#[]⟩, .slice none 0 0, .slice none 0 0, .int .u16 0, .int .u32 0, .int .u8 0, .slice none 0 0, .slice none 0 0] := HS.out.at 1 rfl
  have hone : (#[.int .i64 0, .int .u32 x1, .int .u32 0, .int .u64 0, .int .u32 0, .int .u32 0, .int .u32 0, .slice none 0 0, .string ⟨#[]⟩, .slice none 0 0, .slice none 0 0, .int .u16 0, .int .u32 0, .int .u8 0, .slice none 0 0, .slice none 0 0] : Array Value).all (·.oneCell') = true := by kernel_rfl
  have HS6 := VL (HS.out.YS #[.int .i64 0, .int .u32 x1, .int .u32 0, .int .u64 0, .int .u32 0, .int .u32 0, .int .u32 0, .slice none 0 0, .string ⟨#[]⟩, .slice none 0 0, .slice none 0 0, .int .u16 0, .int .u32 0, .int .u8 0, .slice none 0 0, .slice none 0 0])
  go_wp2_with (first | refine wpList_load_row rfl 51 (.tmp 6) rfl q rfl 51 _ (0, 0) _ hb hd rfl Zx ?_ | refine wpList_store_row rfl 51 (.tmp 6) (.tmp _) rfl q #[.int .i64 0, .int .u32 x1, .int .u32 0, .int .u64 0, .int .u32 0, .int .u32 0, .int .u32 0, .slice none 0 0, .string ⟨#[]⟩, .slice none 0 0, .slice none 0 0, .int .u16 0, .int .u32 0, .int .u8 0, .slice none 0 0, .slice none 0 0] rfl rfl 51 _ hb Zx rfl hone ?_)
  refine bodyPost_ret (results_cell_row (p := 6) Try.results30 _ _ q 51 _ (0, 0) _ rfl (HS6.out.at 1 rfl) hd rfl Zx) rfl ?_
  exact ⟨J0, ⟨0, x1, 0, 0, 0, 0, 0, [], ⟨#[]⟩, [], [], 0, 0, 0, [], []⟩, VH, rfl, .refl J0, HS6.out.drop.drop, Xc J0 0 x1 0, XO 0 x1 0 ⟨x1a, x1b⟩ (by decide), .inl rfl, fun p hp => (HF.out p hp).elim⟩
end Go.Proofs.Ytddopbbmgpnjjaa
