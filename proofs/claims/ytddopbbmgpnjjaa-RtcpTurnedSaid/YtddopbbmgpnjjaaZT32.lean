/- part. -/
import Derived.Test.YtddopbbmgpnjjaaZT29
namespace Go.Proofs.Ytddopbbmgpnjjaa
set_option linter.unusedSimpArgs false
open Go.RowKit
set_option maxRecDepth 100000 in
set_option maxHeartbeats 40000000 in
theorem build5 (I : Zh) (M : List Zt) (w : World) (ZA : Int) (ZC : Int) (ZN : Int) (ZP : Int) (ZI : Int) (ZJ : Int) (base : Int) (ref : Int) (count : Int) (name : ByteArray) (ZE : List Rp) (ZG ZH ZF : List Int) (ZB : List Wn) (rA : Option Addr) (rz : Nat) (sA : Option Addr) (sz : Nat) (qA : Option Addr) (qz : Nat) (aA : Option Addr) (az : Nat) (wA : Option Addr) (wz : Nat) (cr : Cells I rA (flat Yt ZE)) (cs : Cells I sA (flat Xd ZG)) (cq : Cells I qA (flat Yp ZH)) (ca : Cells I aA (flat XC ZF)) (cw : Cells I wA (flat WO ZB)) (hok : Y6 (⟨5, ZA, ZC, ZN, ZP, ZI, ZJ, ZE, name, ZG, ZH, base, ref, count, ZF, ZB⟩ : Pk)) (hg : Good (⟨5, ZA, ZC, ZN, ZP, ZI, ZJ, ZE, name, ZG, ZH, base, ref, count, ZF, ZB⟩ : Pk)) (ZX : St I M w) :
  Calls Try.prog 18 #[.agg #[.int .i64 5, .int .u32 ZA, .int .u32 ZC, .int .u64 ZN, .int .u32 ZP, .int .u32 ZI, .int .u32 ZJ, .slice rA ZE.length rz, .string name, .slice sA ZG.length sz, .slice qA ZH.length qz, .int .u16 base, .int .u32 ref, .int .u8 count, .slice aA ZF.length az, .slice wA ZB.length wz]] w (Bui I M (⟨5, ZA, ZC, ZN, ZP, ZI, ZJ, ZE, name, ZG, ZH, base, ref, count, ZF, ZB⟩ : Pk)) := by
 have ZY := ZX.alloc 56 #[.int .i64 5, .int .u32 ZA, .int .u32 ZC, .int .u64 ZN, .int .u32 ZP, .int .u32 ZI, .int .u32 ZJ, .slice rA ZE.length rz, .string name, .slice sA ZG.length sz, .slice qA ZH.length qz, .int .u16 base, .int .u32 ref, .int .u8 count, .slice aA ZF.length az, .slice wA ZB.length wz]
 have HOK := VL hok
 have HGD := VL hg
 have hbl := Xt hg
 obtain ⟨n1, n2, n3, n4, n5, n6⟩ := Y0 hg
 have HLOW := VL (XB hg)
 simp only [] at n1 n2 n3 n4 n5 n6
 have HCR := VL cr
 have HCS := VL cs
 have HCW := VL cw
 have HCQ := VL cq
 have HCA := VL ca
 clear cr cs cq ca cw hok hg ZX
 obtain ⟨B, hB⟩ : ∃ B, B = Zu (⟨5, ZA, ZC, ZN, ZP, ZI, ZJ, ZE, name, ZG, ZH, base, ref, count, ZF, ZB⟩ : Pk) := ⟨_, rfl⟩
 rw [<- hB] at hbl
 obtain ⟨low, hlow⟩ : ∃ low, low = XV (⟨5, ZA, ZC, ZN, ZP, ZI, ZJ, ZE, name, ZG, ZH, base, ref, count, ZF, ZB⟩ : Pk) := ⟨_, rfl⟩
 obtain ⟨q, hq⟩ : ∃ q, q = w.heap.size := ⟨_, rfl⟩
 rw [<- hq] at ZY
 have HBE := VL hB
 have HLE0 := VL hlow
 clear hB hlow
 go_enter Try.func18, Try.ntmps18
 go_upto_region 1 with fail
 rw [<- hq]
 clear hq
 generalize World.alloc w _ = W at ZY ⊢
 obtain ⟨Zc, hf1, hl1⟩ := ZO.all (ZY.at 0 rfl)
 have HST := VL ZY
 clear ZY
 go_upto_region 29 with fail
 clear Zc hf1 hl1
 have YV := VL (fun (J : Zh) (w' : World) (_ : I.le J) (hs : St J (bk q 56 #[.int .i64 5, .int .u32 ZA, .int .u32 ZC, .int .u64 ZN, .int .u32 ZP, .int .u32 ZI, .int .u32 ZJ, .slice rA ZE.length rz, .string name, .slice sA ZG.length sz, .slice qA ZH.length qz, .int .u16 base, .int .u32 ref, .int .u8 count, .slice aA ZF.length az, .slice wA ZB.length wz] :: M) w') => (show ∀ i, w'.cell? ⟨q, i, none⟩ = (#[.int .i64 5, .int .u32 ZA, .int .u32 ZC, .int .u64 ZN, .int .u32 ZP, .int .u32 ZI, .int .u32 ZJ, .slice rA ZE.length rz, .string name, .slice sA ZG.length sz, .slice qA ZH.length qz, .int .u16 base, .int .u32 ref, .int .u8 count, .slice aA ZF.length az, .slice wA ZB.length wz] : Array Value)[i]? from (ZO.all (hs.at 0 rfl)).1))
 have HLB := VL (show (YG ZH).length <= 128 by have := WZ _ ZH (Nat.le_refl _); omega)
 have HORD := VL (show Ord ZH by rcases HGD.out.1 with h | h | h | h | h | h | h <;> simp at h; exact h.1)
 refine wp_region_held_drew (S := fun w' => ∀ i, w'.cell? ⟨q, i, none⟩ = (#[.int .i64 5, .int .u32 ZA, .int .u32 ZC, .int .u64 ZN, .int .u32 ZP, .int .u32 ZI, .int .u32 ZJ, .slice rA ZE.length rz, .string name, .slice sA ZG.length sz, .slice qA ZH.length qz, .int .u16 base, .int .u32 ref, .int .u8 count, .slice aA ZF.length az, .slice wA ZB.length wz] : Array Value)[i]?) (by kernel_rfl) (YV.out _ _ (.refl _) HST.out.drew) (fun ZL => ?_)
 refine wh 0 rfl (by kernel_rfl) (fun _ _ _ h => h) rfl ‹_› (by intro w h;go_simp;try with_reducible rfl) ?_
 try go_frame
 refine wh 1 rfl (by kernel_rfl) (fun _ _ _ h => h) rfl ‹_› (by intro w h;go_simp;try with_reducible rfl) ?_
 try go_frame
 refine wh 3 rfl (by kernel_rfl) (fun _ _ _ h => h) rfl ‹_› (by intro w h;go_simp;try with_reducible rfl) ?_
 try go_frame
 refine wh 4 rfl (by kernel_rfl) (fun _ _ _ h => h) rfl ‹_› (by intro w h;go_simp;try with_reducible rfl) ?_
 try go_frame
 refine wh 6 rfl (by kernel_rfl) (fun _ _ _ h => h) rfl ‹_› (by intro w h;go_simp;try with_reducible rfl) ?_
 try go_frame
 refine wh 7 rfl (by kernel_rfl) (fun _ _ _ h => h) rfl ‹_› (by intro w h;go_simp;try with_reducible rfl) ?_
 try go_frame
 refine WR (I := I) (M := bk q 56 #[.int .i64 5, .int .u32 ZA, .int .u32 ZC, .int .u64 ZN, .int .u32 ZP, .int .u32 ZI, .int .u32 ZJ, .slice rA ZE.length rz, .string name, .slice sA ZG.length sz, .slice qA ZH.length qz, .int .u16 base, .int .u32 ref, .int .u8 count, .slice aA ZF.length az, .slice wA ZB.length wz] :: M) (l := [(2, 126, ZM ZA), (5, 129, ZM ZC), (8, 132, YG ZH)]) 3 (by kernel_rfl) (by simp only [List.map_cons, List.map_nil]; decide) (by simp only [List.map_cons, List.map_nil]; decide) YV.out HST.out.drew ?_ ?_
 ·refine List.forall_mem_cons.2 ⟨?_, List.forall_mem_cons.2 ⟨?_, List.forall_mem_cons.2 ⟨?_, fun _ h => by cases h⟩⟩⟩
  ·refine YI.call (o := _) rfl rfl rfl rfl (fun _ _ => rfl) ?_ (fun J w Z5 hs => (Yk J _ w (ZA) (HOK.out.ZA) hs).mono (fun _ _ h => h))
   intro xf; simp [Act.over, Zm, Act.eval]
  ·refine YI.call (o := _) rfl rfl rfl rfl (fun _ _ => rfl) ?_ (fun J w Z5 hs => (Yk J _ w (ZC) (HOK.out.ZC) hs).mono (fun _ _ h => h))
   intro xf; simp [Act.over, Zm, Act.eval]
  refine YI.call (o := _) rfl rfl rfl rfl (fun _ _ => rfl) ?_ (fun J w Z5 hs => (piecesR J _ w qA qz ZH (HCQ.out.mono Z5) HOK.out.ZH n3 HORD.out hs).mono (fun _ _ h => h))
  intro xf; simp [Act.over, Zm, Act.eval]
 intro xf J w Z5 hs hx
 have r0 : Xy (ZM ZA) (xf 126) J := hx (2, 126, ZM ZA) (by simp)
 have r1 : Xy (ZM ZC) (xf 129) J := hx (5, 129, ZM ZC) (by simp)
 have r2 : Xy (YG ZH) (xf 132) J := hx (8, 132, YG ZH) (by simp)
 simp only [List.map_cons, List.map_nil, Act.over, Zm, List.foldl_cons, List.foldl_nil, List.setIfInBounds_toArray, List.set_cons_zero, List.set_cons_succ]
 generalize xf 126 = v126 at *
 obtain ⟨A126, c126, rfl, b126⟩ := r0
 generalize xf 129 = v129 at *
 obtain ⟨A129, c129, rfl, b129⟩ := r1
 generalize xf 132 = v132 at *
 obtain ⟨A132, c132, rfl, b132⟩ := r2
 clear hx
 refine wpAnyH_ready (rs := [9]) (by kernel_rfl) (by simp) ?_
 refine AllReadyH.cons (o := _) rfl (fun K hK => ?_) AllReadyH.nil
 go_simp
 try clear ZL
 refine hK.out _ _ (YV.out J _ Z5 (hs.grow _)) (fun ZL => ?_)
 clear hK K
 try go_frame
 obtain ⟨J2, Zd, YN, Z4⟩ := (hs.alloc 24 #[.slice A126 (ZM ZA).length c126, .slice A129 (ZM ZC).length c129, .slice A132 (YG ZH).length c132]).Zg
 have hcs := Cells.Yv Z4
 refine wpAnyH_ready (rs := [10]) (by kernel_rfl) (by simp) ?_
 refine AllReadyH.cons (o := _) rfl (fun K hK => ?_) AllReadyH.nil
 go_simp
 go_at_call 35
 refine (WC J2 (bk q 56 #[.int .i64 5, .int .u32 ZA, .int .u32 ZC, .int .u64 ZN, .int .u32 ZP, .int .u32 ZI, .int .u32 ZJ, .slice rA ZE.length rz, .string name, .slice sA ZG.length sz, .slice qA ZH.length qz, .int .u16 base, .int .u32 ref, .int .u8 count, .slice aA ZF.length az, .slice wA ZB.length wz] :: M) _ (some ⟨w.heap.size, 0, none⟩) 3 [ZM ZA, ZM ZC, YG ZH] [.slice A126 (ZM ZA).length c126, .slice A129 (ZM ZC).length c129, .slice A132 (YG ZH).length c132] hcs ⟨⟨A126, c126, rfl, b126.mono Zd⟩, ⟨A129, c129, rfl, b129.mono Zd⟩, ⟨A132, c132, rfl, b132.mono Zd⟩, trivial⟩ (by simp) (by have := HLB.out; simp only [List.flatten_cons, List.flatten_nil, List.length_append, List.length_cons, List.length_nil, Zy, Zz]; omega) YN).mono ?_
 rintro e w3 ⟨_, _, _, rfl, _, Zf, rfl, A3, c3, rfl, hc3, rfl⟩
 obtain ⟨fl, hfl⟩ : ∃ z : List UInt8, z = ([ZM ZA, ZM ZC, YG ZH] : List (List UInt8)).flatten := ⟨_, rfl⟩
 rw [<- hfl] at Zf hc3 ⊢
 have HFLAT := VL hfl
 clear hfl
 try clear ZL
 refine hK.out _ _ (YV.out J2 _ (Z5.trans Zd) Zf.drop) (fun ZL => ?_)
 clear hK K
 try go_frame
 refine wh 11 rfl (by kernel_rfl) (fun _ _ _ h => h) rfl ‹_› (by intro w h;go_simp;try with_reducible rfl) ?_
 try go_frame
 refine wpAnyH_done (by kernel_rfl) ?_ _
 have hbq : fl = B := by rw [HFLAT.out, HBE.out]; exact body5 HGD.out
 subst hbq
 have HS := VL Zf
 have HLE := VL (Z5.trans Zd)
 clear hs YN Zf ZL Z5 Zd hcs Z4 HFLAT
 generalize A3 = A4 at *
 go_upto_region 36 with fail
 go_loopw [3] (fun bv wr => ∃ (A : Option Addr) (n c : Nat), bv = .slice A n c /\ n <= 4000 /\ Hid (∃ (j : Nat) (J : Zh), n = fl.length + j /\ j <= (4 - fl.length % 4) % 4 /\ I.le J /\ St J (row 5 1 (.slice A n c) n (Z6 (fl ++ List.replicate j 0)) :: bk q 56 #[.int .i64 5, .int .u32 ZA, .int .u32 ZC, .int .u64 ZN, .int .u32 ZP, .int .u32 ZI, .int .u32 ZJ, .slice rA ZE.length rz, .string name, .slice sA ZG.length sz, .slice qA ZH.length qz, .int .u16 base, .int .u32 ref, .int .u8 count, .slice aA ZF.length az, .slice wA ZB.length wz] :: M) wr)) (fun bv _ => (4 - sliceLen bv % 4) % 4)
 case atStart => exact ⟨_, _, _, rfl, by omega, VL ⟨0, J2, rfl, Nat.zero_le _, HLE.out, by simpa using HS.out⟩⟩
 case round =>
  obtain ⟨A, n, c, rfl, hn, hh⟩ := hrel
  obtain ⟨j, J, hnj, hj, Z5, hs⟩ := hh.out
  clear hh HS HLE
  have hln : (fl ++ List.replicate j 0).length = n := by rw [hnj]; simp
  have HLN := VL hln
  have HRP := VL (X9 j)
  have HNJ := VL hnj
  by_cases Z0 : j < (4 - fl.length % 4) % 4
  ·have hm : ((n : Int) % 4 != 0) = true := by rw [bne_iff_ne]; omega
   obtain ⟨J3, YL, Zf, Z4⟩ := (hs.alloc 5 #[.int .u8 0]).Zg
   have HB1 := VL (show Xy [0] (.slice (some ⟨wr.heap.size, 0, none⟩) 1 1) J3 from ⟨_, 1, rfl, Zq.Yv Z4 rfl⟩)
   obtain ⟨bl, hbe⟩ : ∃ bl, bl = fl ++ List.replicate j 0 := ⟨_, rfl⟩
   rw [<- hbe] at Zf hln
   rw [<- hln] at Zf
   have HBL := VL hbe
   have HS3 := VL Zf
   have HLE := VL (Z5.trans YL)
   have HLT := VL Z0
   have HLL := VL hln
   clear hbe Z5 YL hs Zf Z4 hnj hj hln Z0
   go_wp2_with (at_builtin; refine Yq rfl _ _ rfl J3 _ _ _ _ _ (by rw [HLL.out]; rfl) rfl HS3.out HB1.out (by have := HLL.out; simp only [List.length_cons, List.length_nil]; omega) ?_)
   intro v3 w3 Zv
   obtain ⟨A5, c5, rfl⟩ := ZW (show World.ownsRow _ 0 5 1 v3 _ _ from St.at Zv 0 rfl)
   have hl5 : (bl ++ [0]).length = n + 1 := by rw [List.length_append, HLL.out]; rfl
   have Zo := show St J3 _ w3 from Zv
   rw [hl5] at Zo ⊢
   have HS5 := VL Zo
   clear Zv Zo HS3 HB1 hl5
   go_wp2
   go_roundw
   case rel =>
    refine ⟨A5, n + 1, c5, rfl, by have := HLT.out; have := HNJ.out; omega, VL ⟨j + 1, J3, by have := HNJ.out; omega, by have := HLT.out; omega, HLE.out, ?_⟩⟩
    have := HS5.out
    rw [HBL.out, List.append_assoc, <- HRP.out] at this
    exact this
   case measure =>
    have h1 := HNJ.out
    have h2 := HLT.out
    show (4 - (n + 1) % 4) % 4 < (4 - n % 4) % 4
    omega
  have hm : ((n : Int) % 4 != 0) = false := by rw [bne_eq_false_iff_eq]; omega
  have hjj : j = (4 - fl.length % 4) % 4 := by omega
  rw [hjj, WM] at hs hln
  obtain ⟨E, hE⟩ : ∃ E, E = YH fl := ⟨_, rfl⟩
  rw [<- hE] at hs hln
  have HE := VL hE
  obtain ⟨J3, YL, Zf, hb3⟩ := hs.ZR
  have HS3 := VL Zf
  have HB3 := VL (show Zq J3 A E from hb3)
  have HLE := VL (Z5.trans YL)
  have HLL := VL hln
  clear hs Zf hb3 Z5 YL hE hln hnj hj hjj Z0
  have HV := VL (show [byteOf (129), byteOf 205] ++ Zi ((E.length / 4 : Nat) : Int) ++ E = ZV (⟨5, ZA, ZC, ZN, ZP, ZI, ZJ, ZE, name, ZG, ZH, base, ref, count, ZF, ZB⟩ : Pk) by
   have e1 : 128 + low = 129 := by rw [HLE0.out]; rfl
   rw [<- e1, HLE0.out, HE.out, HBE.out]
   rfl)
  obtain ⟨J4, hle4, Zv, Z4⟩ := (HS3.out.alloc 5 #[.int .u8 (129), .int .u8 205]).Zg
  have HB4 := VL (show Zq J4 (some ⟨wr.heap.size, 0, none⟩) [byteOf (129), byteOf 205] from Zq.Yv Z4 (WS (by omega) (by omega)))
  have HT := VL (twoR J4 _ _ ((n : Int) / 4) Zv)
  have HLE4 := VL hle4
  clear hle4 Zv Z4 HS3
  go_wp2_with fail
  go_at_call 39
  refine HT.out.mono ?_
  clear HT
  rintro e w2 ⟨_, _, _, rfl, _, ZY, rfl, A6, c6, rfl, hc6, rfl⟩
  obtain ⟨J5, hle5, Zo, hb5⟩ := ZY.ZR
  have hb5 : Zq J5 A6 (Zi ((n : Int) / 4 % 65536)) := hb5
  obtain ⟨J6, hle6, hs6, Z4⟩ := (Zo.alloc 24 #[.slice (some ⟨wr.heap.size, 0, none⟩) 2 2, .slice A6 (Zi ((n : Int) / 4 % 65536)).length c6, .slice A n c]).Zg
  have hcs := Cells.Yv Z4
  have HJ := VL (WC J6 (bk q 56 #[.int .i64 5, .int .u32 ZA, .int .u32 ZC, .int .u64 ZN, .int .u32 ZP, .int .u32 ZI, .int .u32 ZJ, .slice rA ZE.length rz, .string name, .slice sA ZG.length sz, .slice qA ZH.length qz, .int .u16 base, .int .u32 ref, .int .u8 count, .slice aA ZF.length az, .slice wA ZB.length wz] :: M) _ (some ⟨w2.heap.size, 0, none⟩) 3 [[byteOf (129), byteOf 205], Zi ((n : Int) / 4 % 65536), E] [.slice (some ⟨wr.heap.size, 0, none⟩) 2 2, .slice A6 (Zi ((n : Int) / 4 % 65536)).length c6, .slice A n c] hcs ⟨⟨_, 2, rfl, (HB4.out.mono hle5).mono hle6⟩, ⟨A6, c6, rfl, hb5.mono hle6⟩, ⟨A, c, by rw [HLL.out], ((HB3.out.mono HLE4.out).mono hle5).mono hle6⟩, trivial⟩ (by simp) (by have := HLL.out; simp only [List.flatten_cons, List.flatten_nil, List.length_append, List.length_cons, List.length_nil, Zz]; omega) hs6)
  have HL := VL (((HLE.out.trans HLE4.out).trans hle5).trans hle6)
  clear ZY Zo hs6 hb5 hc6 Z4 hcs hle5 hle6 HB3 HB4
  go_wp2_with fail
  go_at_call 35
  refine HJ.out.mono ?_
  clear HJ
  rintro e w4 ⟨_, _, _, rfl, _, hs7, rfl, A7, c7, rfl, hc7, rfl⟩
  have HPE := VL (show ([[byteOf (129), byteOf 205], Zi ((n : Int) / 4 % 65536), E] : List (List UInt8)).flatten = ZV (⟨5, ZA, ZC, ZN, ZP, ZI, ZJ, ZE, name, ZG, ZH, base, ref, count, ZF, ZB⟩ : Pk) by
   rw [<- HV.out, HLL.out]
   have e2 : (n : Int) / 4 % 65536 = ((n / 4 : Nat) : Int) := by omega
   rw [e2]
   simp)
  rw [HPE.out] at hs7 hc7 ⊢
  have HF := VL (show Bui I M (⟨5, ZA, ZC, ZN, ZP, ZI, ZJ, ZE, name, ZG, ZH, base, ref, count, ZF, ZB⟩ : Pk) (.returned _) w4 from YR.mk HL.out (St.ZQ hs7).drop ⟨A7, c7, rfl, rfl⟩)
  clear hs7 hc7 HPE HV
  generalize ZV (⟨5, ZA, ZC, ZN, ZP, ZI, ZJ, ZE, name, ZG, ZH, base, ref, count, ZF, ZB⟩ : Pk) = pbs at *
  go_wp2
  go_returns
  exact HF.out
set_option maxRecDepth 100000 in
set_option maxHeartbeats 40000000 in
theorem build6 (I : Zh) (M : List Zt) (w : World) (ZA : Int) (ZC : Int) (ZN : Int) (ZP : Int) (ZI : Int) (ZJ : Int) (base : Int) (ref : Int) (count : Int) (name : ByteArray) (ZE : List Rp) (ZG ZH ZF : List Int) (ZB : List Wn) (rA : Option Addr) (rz : Nat) (sA : Option Addr) (sz : Nat) (qA : Option Addr) (qz : Nat) (aA : Option Addr) (az : Nat) (wA : Option Addr) (wz : Nat) (cr : Cells I rA (flat Yt ZE)) (cs : Cells I sA (flat Xd ZG)) (cq : Cells I qA (flat Yp ZH)) (ca : Cells I aA (flat XC ZF)) (cw : Cells I wA (flat WO ZB)) (hok : Y6 (⟨6, ZA, ZC, ZN, ZP, ZI, ZJ, ZE, name, ZG, ZH, base, ref, count, ZF, ZB⟩ : Pk)) (hg : Good (⟨6, ZA, ZC, ZN, ZP, ZI, ZJ, ZE, name, ZG, ZH, base, ref, count, ZF, ZB⟩ : Pk)) (ZX : St I M w) :
  Calls Try.prog 18 #[.agg #[.int .i64 6, .int .u32 ZA, .int .u32 ZC, .int .u64 ZN, .int .u32 ZP, .int .u32 ZI, .int .u32 ZJ, .slice rA ZE.length rz, .string name, .slice sA ZG.length sz, .slice qA ZH.length qz, .int .u16 base, .int .u32 ref, .int .u8 count, .slice aA ZF.length az, .slice wA ZB.length wz]] w (Bui I M (⟨6, ZA, ZC, ZN, ZP, ZI, ZJ, ZE, name, ZG, ZH, base, ref, count, ZF, ZB⟩ : Pk)) := by
 have ZY := ZX.alloc 56 #[.int .i64 6, .int .u32 ZA, .int .u32 ZC, .int .u64 ZN, .int .u32 ZP, .int .u32 ZI, .int .u32 ZJ, .slice rA ZE.length rz, .string name, .slice sA ZG.length sz, .slice qA ZH.length qz, .int .u16 base, .int .u32 ref, .int .u8 count, .slice aA ZF.length az, .slice wA ZB.length wz]
 have HOK := VL hok
 have HGD := VL hg
 have hbl := Xt hg
 obtain ⟨n1, n2, n3, n4, n5, n6⟩ := Y0 hg
 have HLOW := VL (XB hg)
 simp only [] at n1 n2 n3 n4 n5 n6
 have HCR := VL cr
 have HCS := VL cs
 have HCW := VL cw
 have HCQ := VL cq
 have HCA := VL ca
 clear cr cs cq ca cw hok hg ZX
 obtain ⟨B, hB⟩ : ∃ B, B = Zu (⟨6, ZA, ZC, ZN, ZP, ZI, ZJ, ZE, name, ZG, ZH, base, ref, count, ZF, ZB⟩ : Pk) := ⟨_, rfl⟩
 rw [<- hB] at hbl
 obtain ⟨low, hlow⟩ : ∃ low, low = XV (⟨6, ZA, ZC, ZN, ZP, ZI, ZJ, ZE, name, ZG, ZH, base, ref, count, ZF, ZB⟩ : Pk) := ⟨_, rfl⟩
 obtain ⟨q, hq⟩ : ∃ q, q = w.heap.size := ⟨_, rfl⟩
 rw [<- hq] at ZY
 have HBE := VL hB
 have HLE0 := VL hlow
 clear hB hlow
 go_enter Try.func18, Try.ntmps18
 go_upto_region 1 with fail
 rw [<- hq]
 clear hq
 generalize World.alloc w _ = W at ZY ⊢
 obtain ⟨Zc, hf1, hl1⟩ := ZO.all (ZY.at 0 rfl)
 have HST := VL ZY
 clear ZY
 go_upto_region 32 with fail
 clear Zc hf1 hl1
 have YV := VL (fun (J : Zh) (w' : World) (_ : I.le J) (hs : St J (bk q 56 #[.int .i64 6, .int .u32 ZA, .int .u32 ZC, .int .u64 ZN, .int .u32 ZP, .int .u32 ZI, .int .u32 ZJ, .slice rA ZE.length rz, .string name, .slice sA ZG.length sz, .slice qA ZH.length qz, .int .u16 base, .int .u32 ref, .int .u8 count, .slice aA ZF.length az, .slice wA ZB.length wz] :: M) w') => (show ∀ i, w'.cell? ⟨q, i, none⟩ = (#[.int .i64 6, .int .u32 ZA, .int .u32 ZC, .int .u64 ZN, .int .u32 ZP, .int .u32 ZI, .int .u32 ZJ, .slice rA ZE.length rz, .string name, .slice sA ZG.length sz, .slice qA ZH.length qz, .int .u16 base, .int .u32 ref, .int .u8 count, .slice aA ZF.length az, .slice wA ZB.length wz] : Array Value)[i]? from (ZO.all (hs.at 0 rfl)).1))
 have HAR := VL (show 1 <= ZF.length /\ ∀ a ∈ ZF, Xp a = false by
  rcases HGD.out.1 with h | h | h | h | h | h | h <;> simp at h
  exact ⟨h.2.1, h.1⟩)
 have HLB := VL (show (WB ZF).length <= 1020 by
  have hm := foldM_ok ZF.length ZF (Nat.le_refl _)
  unfold WB WL
  rw [List.length_append]
  omega)
 have ho1 := HOK.out.ref
 have ho2 := HOK.out.count
 have ho3 := HOK.out.base
 simp only [] at ho1 ho2 ho3
 have hor := or_ref ho1 ho2
 obtain ⟨p1, p2⟩ := ho1
 obtain ⟨p3, p4⟩ := ho2
 obtain ⟨p5, p6⟩ := ho3
 have hw1 : IntKind.u32.wrap (ref * 256) = ref * 256 := wrap_u32 (by omega) (by omega)
 have hw2 : IntKind.u32.wrap count = count := wrap_u32 (by omega) (by omega)
 have hw3 : IntKind.i64.wrap base = base := wrap_i64 (by omega) (by omega)
 have hw4 : IntKind.u32.wrap (IntKind.u32.wrap (ref * 256)) = ref * 256 := by rw [hw1, hw1]
 refine wp_region_held_drew (S := fun w' => ∀ i, w'.cell? ⟨q, i, none⟩ = (#[.int .i64 6, .int .u32 ZA, .int .u32 ZC, .int .u64 ZN, .int .u32 ZP, .int .u32 ZI, .int .u32 ZJ, .slice rA ZE.length rz, .string name, .slice sA ZG.length sz, .slice qA ZH.length qz, .int .u16 base, .int .u32 ref, .int .u8 count, .slice aA ZF.length az, .slice wA ZB.length wz] : Array Value)[i]?) (by kernel_rfl) (YV.out _ _ (.refl _) HST.out.drew) (fun ZL => ?_)
 refine wh 0 rfl (by kernel_rfl) (fun _ _ _ h => h) rfl ‹_› (by intro w h;go_simp;try with_reducible rfl) ?_
 try go_frame
 refine wh 1 rfl (by kernel_rfl) (fun _ _ _ h => h) rfl ‹_› (by intro w h;go_simp;try with_reducible rfl) ?_
 try go_frame
 refine wh 3 rfl (by kernel_rfl) (fun _ _ _ h => h) rfl ‹_› (by intro w h;go_simp;try with_reducible rfl) ?_
 try go_frame
 refine wh 4 rfl (by kernel_rfl) (fun _ _ _ h => h) rfl ‹_› (by intro w h;go_simp;try with_reducible rfl) ?_
 try go_frame
 refine wh 6 rfl (by kernel_rfl) (fun _ _ _ h => h) rfl ‹_› (by intro w h;go_simp;try with_reducible rfl) ?_
 try go_frame
 refine wh 7 rfl (by kernel_rfl) (fun _ _ _ h => h) rfl ‹_› (by intro w h;go_simp;try with_reducible rfl) ?_
 try go_frame
 refine wh 8 rfl (by kernel_rfl) (fun _ _ _ h => h) rfl ‹_› (by intro w h;go_simp;try with_reducible rfl) ?_
 try go_frame
 refine wh 10 rfl (by kernel_rfl) (fun _ _ _ h => h) rfl ‹_› (by intro w h;go_simp;try with_reducible rfl) ?_
 try go_frame
 refine wh 11 rfl (by kernel_rfl) (fun _ _ _ h => h) rfl ‹_› (by intro w h;go_simp;try with_reducible rfl) ?_
 try go_frame
 refine wh 12 rfl (by kernel_rfl) (fun _ _ _ h => h) rfl ‹_› (by intro w h;go_simp;try with_reducible rfl) ?_
 try go_frame
 refine wh 14 rfl (by kernel_rfl) (fun _ _ _ h => h) rfl ‹_› (by intro w h;go_simp;try with_reducible rfl) ?_
 try go_frame
 refine wh 15 rfl (by kernel_rfl) (fun _ _ _ h => h) rfl ‹_› (by intro w h;go_simp;try with_reducible rfl) ?_
 try go_frame
 refine wh 16 rfl (by kernel_rfl) (fun _ _ _ h => h) rfl ‹_› (by intro w h;go_simp;try with_reducible rfl) ?_
 try go_frame
 refine wh 17 rfl (by kernel_rfl) (fun _ _ _ h => h) rfl ‹_› (by intro w h;go_simp;try with_reducible rfl) ?_
 try go_frame
 refine wh 18 rfl (by kernel_rfl) (fun _ _ _ h => h) rfl ‹_› (by intro w h;go_simp;try with_reducible rfl) ?_
 try go_frame
 refine wh 19 rfl (by kernel_rfl) (fun _ _ _ h => h) rfl ‹_› (by intro w h;go_simp;try with_reducible rfl) ?_
 try go_frame
 refine wh 20 rfl (by kernel_rfl) (fun _ _ _ h => h) rfl ‹_› (by intro w h;go_simp;try with_reducible rfl) ?_
 try go_frame
 refine wh 22 rfl (by kernel_rfl) (fun _ _ _ h => h) rfl ‹_› (by intro w h;go_simp;try with_reducible rfl) ?_
 try go_frame
 refine wh 23 rfl (by kernel_rfl) (fun _ _ _ h => h) rfl ‹_› (by intro w h;go_simp;try with_reducible rfl) ?_
 try go_frame
 refine WR (I := I) (M := bk q 56 #[.int .i64 6, .int .u32 ZA, .int .u32 ZC, .int .u64 ZN, .int .u32 ZP, .int .u32 ZI, .int .u32 ZJ, .slice rA ZE.length rz, .string name, .slice sA ZG.length sz, .slice qA ZH.length qz, .int .u16 base, .int .u32 ref, .int .u8 count, .slice aA ZF.length az, .slice wA ZB.length wz] :: M) (l := [(2, 139, ZM ZA), (5, 142, ZM ZC), (9, 146, Zi (base % 65536)), (13, 150, Zi ((ZF.length : Int) % 65536)), (21, 158, ZM (ref * 256 + count)), (24, 161, WB ZF)]) 3 (by kernel_rfl) (by simp only [List.map_cons, List.map_nil]; decide) (by simp only [List.map_cons, List.map_nil]; decide) YV.out HST.out.drew ?_ ?_
 ·refine List.forall_mem_cons.2 ⟨?_, List.forall_mem_cons.2 ⟨?_, List.forall_mem_cons.2 ⟨?_, List.forall_mem_cons.2 ⟨?_, List.forall_mem_cons.2 ⟨?_, List.forall_mem_cons.2 ⟨?_, fun _ h => by cases h⟩⟩⟩⟩⟩⟩
  ·refine YI.call (o := _) rfl rfl rfl rfl (fun _ _ => rfl) ?_ (fun J w Z5 hs => (Yk J _ w (ZA) (HOK.out.ZA) hs).mono (fun _ _ h => h))
   intro xf; simp [Act.over, Zm, Act.eval, hw1, hw2, hw3, hw4, hor]
  ·refine YI.call (o := _) rfl rfl rfl rfl (fun _ _ => rfl) ?_ (fun J w Z5 hs => (Yk J _ w (ZC) (HOK.out.ZC) hs).mono (fun _ _ h => h))
   intro xf; simp [Act.over, Zm, Act.eval, hw1, hw2, hw3, hw4, hor]
  ·refine YI.call (o := _) rfl rfl rfl rfl (fun _ _ => rfl) ?_ (fun J w Z5 hs => (two_frz J _ w base hs).mono (fun _ _ h => h))
   intro xf; simp [Act.over, Zm, Act.eval, hw1, hw2, hw3, hw4, hor]
  ·refine YI.call (o := _) rfl rfl rfl rfl (fun _ _ => rfl) ?_ (fun J w Z5 hs => (two_frz J _ w ZF.length hs).mono (fun _ _ h => h))
   intro xf; simp [Act.over, Zm, Act.eval, hw1, hw2, hw3, hw4, hor]
  ·refine YI.call (o := _) rfl rfl rfl rfl (fun _ _ => rfl) ?_ (fun J w Z5 hs => (Yk J _ w (ref * 256 + count) (⟨by omega, by omega⟩) hs).mono (fun _ _ h => h))
   intro xf; simp [Act.over, Zm, Act.eval, hw1, hw2, hw3, hw4, hor]
  refine YI.call (o := _) rfl rfl rfl rfl (fun _ _ => rfl) ?_ (fun J w Z5 hs => (arrivalsR J _ w aA az ZF (HCA.out.mono Z5) HAR.out.1 n4 HAR.out.2 hs).mono (fun _ _ h => h))
  intro xf; simp [Act.over, Zm, Act.eval, hw1, hw2, hw3, hw4, hor]
 intro xf J w Z5 hs hx
 have r0 : Xy (ZM ZA) (xf 139) J := hx (2, 139, ZM ZA) (by simp)
 have r1 : Xy (ZM ZC) (xf 142) J := hx (5, 142, ZM ZC) (by simp)
 have r2 : Xy (Zi (base % 65536)) (xf 146) J := hx (9, 146, Zi (base % 65536)) (by simp)
 have r3 : Xy (Zi ((ZF.length : Int) % 65536)) (xf 150) J := hx (13, 150, Zi ((ZF.length : Int) % 65536)) (by simp)
 have r4 : Xy (ZM (ref * 256 + count)) (xf 158) J := hx (21, 158, ZM (ref * 256 + count)) (by simp)
 have r5 : Xy (WB ZF) (xf 161) J := hx (24, 161, WB ZF) (by simp)
 simp only [List.map_cons, List.map_nil, Act.over, Zm, List.foldl_cons, List.foldl_nil, List.setIfInBounds_toArray, List.set_cons_zero, List.set_cons_succ]
 generalize xf 139 = v139 at *
 obtain ⟨A139, c139, rfl, b139⟩ := r0
 generalize xf 142 = v142 at *
 obtain ⟨A142, c142, rfl, b142⟩ := r1
 generalize xf 146 = v146 at *
 obtain ⟨A146, c146, rfl, b146⟩ := r2
 generalize xf 150 = v150 at *
 obtain ⟨A150, c150, rfl, b150⟩ := r3
 generalize xf 158 = v158 at *
 obtain ⟨A158, c158, rfl, b158⟩ := r4
 generalize xf 161 = v161 at *
 obtain ⟨A161, c161, rfl, b161⟩ := r5
 clear hx
 refine wpAnyH_ready (rs := [25]) (by kernel_rfl) (by simp) ?_
 refine AllReadyH.cons (o := _) rfl (fun K hK => ?_) AllReadyH.nil
 go_simp
 try clear ZL
 refine hK.out _ _ (YV.out J _ Z5 (hs.grow _)) (fun ZL => ?_)
 clear hK K
 try go_frame
 obtain ⟨J2, Zd, YN, Z4⟩ := (hs.alloc 24 #[.slice A139 (ZM ZA).length c139, .slice A142 (ZM ZC).length c142, .slice A146 (Zi (base % 65536)).length c146, .slice A150 (Zi ((ZF.length : Int) % 65536)).length c150, .slice A158 (ZM (ref * 256 + count)).length c158, .slice A161 (WB ZF).length c161]).Zg
 have hcs := Cells.Yv Z4
 refine wpAnyH_ready (rs := [26]) (by kernel_rfl) (by simp) ?_
 refine AllReadyH.cons (o := _) rfl (fun K hK => ?_) AllReadyH.nil
 go_simp
 go_at_call 35
 refine (WC J2 (bk q 56 #[.int .i64 6, .int .u32 ZA, .int .u32 ZC, .int .u64 ZN, .int .u32 ZP, .int .u32 ZI, .int .u32 ZJ, .slice rA ZE.length rz, .string name, .slice sA ZG.length sz, .slice qA ZH.length qz, .int .u16 base, .int .u32 ref, .int .u8 count, .slice aA ZF.length az, .slice wA ZB.length wz] :: M) _ (some ⟨w.heap.size, 0, none⟩) 6 [ZM ZA, ZM ZC, Zi (base % 65536), Zi ((ZF.length : Int) % 65536), ZM (ref * 256 + count), WB ZF] [.slice A139 (ZM ZA).length c139, .slice A142 (ZM ZC).length c142, .slice A146 (Zi (base % 65536)).length c146, .slice A150 (Zi ((ZF.length : Int) % 65536)).length c150, .slice A158 (ZM (ref * 256 + count)).length c158, .slice A161 (WB ZF).length c161] hcs ⟨⟨A139, c139, rfl, b139.mono Zd⟩, ⟨A142, c142, rfl, b142.mono Zd⟩, ⟨A146, c146, rfl, b146.mono Zd⟩, ⟨A150, c150, rfl, b150.mono Zd⟩, ⟨A158, c158, rfl, b158.mono Zd⟩, ⟨A161, c161, rfl, b161.mono Zd⟩, trivial⟩ (by simp) (by have := HLB.out; simp only [List.flatten_cons, List.flatten_nil, List.length_append, List.length_cons, List.length_nil, Zy, Zz]; omega) YN).mono ?_
 rintro e w3 ⟨_, _, _, rfl, _, Zf, rfl, A3, c3, rfl, hc3, rfl⟩
 obtain ⟨fl, hfl⟩ : ∃ z : List UInt8, z = ([ZM ZA, ZM ZC, Zi (base % 65536), Zi ((ZF.length : Int) % 65536), ZM (ref * 256 + count), WB ZF] : List (List UInt8)).flatten := ⟨_, rfl⟩
 rw [<- hfl] at Zf hc3 ⊢
 have HFLAT := VL hfl
 clear hfl
 try clear ZL
 refine hK.out _ _ (YV.out J2 _ (Z5.trans Zd) Zf.drop) (fun ZL => ?_)
 clear hK K
 try go_frame
 refine wh 27 rfl (by kernel_rfl) (fun _ _ _ h => h) rfl ‹_› (by intro w h;go_simp;try with_reducible rfl) ?_
 try go_frame
 refine wpAnyH_done (by kernel_rfl) ?_ _
 have hbq : fl = B := by rw [HFLAT.out, HBE.out]; exact body6 HGD.out HOK.out n4
 subst hbq
 have HS := VL Zf
 have HLE := VL (Z5.trans Zd)
 clear hs YN Zf ZL Z5 Zd hcs Z4 HFLAT
 generalize A3 = A4 at *
 go_upto_region 36 with fail
 go_loopw [3] (fun bv wr => ∃ (A : Option Addr) (n c : Nat), bv = .slice A n c /\ n <= 4000 /\ Hid (∃ (j : Nat) (J : Zh), n = fl.length + j /\ j <= (4 - fl.length % 4) % 4 /\ I.le J /\ St J (row 5 1 (.slice A n c) n (Z6 (fl ++ List.replicate j 0)) :: bk q 56 #[.int .i64 6, .int .u32 ZA, .int .u32 ZC, .int .u64 ZN, .int .u32 ZP, .int .u32 ZI, .int .u32 ZJ, .slice rA ZE.length rz, .string name, .slice sA ZG.length sz, .slice qA ZH.length qz, .int .u16 base, .int .u32 ref, .int .u8 count, .slice aA ZF.length az, .slice wA ZB.length wz] :: M) wr)) (fun bv _ => (4 - sliceLen bv % 4) % 4)
 case atStart => exact ⟨_, _, _, rfl, by omega, VL ⟨0, J2, rfl, Nat.zero_le _, HLE.out, by simpa using HS.out⟩⟩
 case round =>
  obtain ⟨A, n, c, rfl, hn, hh⟩ := hrel
  obtain ⟨j, J, hnj, hj, Z5, hs⟩ := hh.out
  clear hh HS HLE
  have hln : (fl ++ List.replicate j 0).length = n := by rw [hnj]; simp
  have HLN := VL hln
  have HRP := VL (X9 j)
  have HNJ := VL hnj
  by_cases Z0 : j < (4 - fl.length % 4) % 4
  ·have hm : ((n : Int) % 4 != 0) = true := by rw [bne_iff_ne]; omega
   obtain ⟨J3, YL, Zf, Z4⟩ := (hs.alloc 5 #[.int .u8 0]).Zg
   have HB1 := VL (show Xy [0] (.slice (some ⟨wr.heap.size, 0, none⟩) 1 1) J3 from ⟨_, 1, rfl, Zq.Yv Z4 rfl⟩)
   obtain ⟨bl, hbe⟩ : ∃ bl, bl = fl ++ List.replicate j 0 := ⟨_, rfl⟩
   rw [<- hbe] at Zf hln
   rw [<- hln] at Zf
   have HBL := VL hbe
   have HS3 := VL Zf
   have HLE := VL (Z5.trans YL)
   have HLT := VL Z0
   have HLL := VL hln
   clear hbe Z5 YL hs Zf Z4 hnj hj hln Z0
   go_wp2_with (at_builtin; refine Yq rfl _ _ rfl J3 _ _ _ _ _ (by rw [HLL.out]; rfl) rfl HS3.out HB1.out (by have := HLL.out; simp only [List.length_cons, List.length_nil]; omega) ?_)
   intro v3 w3 Zv
   obtain ⟨A5, c5, rfl⟩ := ZW (show World.ownsRow _ 0 5 1 v3 _ _ from St.at Zv 0 rfl)
   have hl5 : (bl ++ [0]).length = n + 1 := by rw [List.length_append, HLL.out]; rfl
   have Zo := show St J3 _ w3 from Zv
   rw [hl5] at Zo ⊢
   have HS5 := VL Zo
   clear Zv Zo HS3 HB1 hl5
   go_wp2
   go_roundw
   case rel =>
    refine ⟨A5, n + 1, c5, rfl, by have := HLT.out; have := HNJ.out; omega, VL ⟨j + 1, J3, by have := HNJ.out; omega, by have := HLT.out; omega, HLE.out, ?_⟩⟩
    have := HS5.out
    rw [HBL.out, List.append_assoc, <- HRP.out] at this
    exact this
   case measure =>
    have h1 := HNJ.out
    have h2 := HLT.out
    show (4 - (n + 1) % 4) % 4 < (4 - n % 4) % 4
    omega
  have hm : ((n : Int) % 4 != 0) = false := by rw [bne_eq_false_iff_eq]; omega
  have hjj : j = (4 - fl.length % 4) % 4 := by omega
  rw [hjj, WM] at hs hln
  obtain ⟨E, hE⟩ : ∃ E, E = YH fl := ⟨_, rfl⟩
  rw [<- hE] at hs hln
  have HE := VL hE
  obtain ⟨J3, YL, Zf, hb3⟩ := hs.ZR
  have HS3 := VL Zf
  have HB3 := VL (show Zq J3 A E from hb3)
  have HLE := VL (Z5.trans YL)
  have HLL := VL hln
  clear hs Zf hb3 Z5 YL hE hln hnj hj hjj Z0
  have HV := VL (show [byteOf (143), byteOf 205] ++ Zi ((E.length / 4 : Nat) : Int) ++ E = ZV (⟨6, ZA, ZC, ZN, ZP, ZI, ZJ, ZE, name, ZG, ZH, base, ref, count, ZF, ZB⟩ : Pk) by
   have e1 : 128 + low = 143 := by rw [HLE0.out]; rfl
   rw [<- e1, HLE0.out, HE.out, HBE.out]
   rfl)
  obtain ⟨J4, hle4, Zv, Z4⟩ := (HS3.out.alloc 5 #[.int .u8 (143), .int .u8 205]).Zg
  have HB4 := VL (show Zq J4 (some ⟨wr.heap.size, 0, none⟩) [byteOf (143), byteOf 205] from Zq.Yv Z4 (WS (by omega) (by omega)))
  have HT := VL (twoR J4 _ _ ((n : Int) / 4) Zv)
  have HLE4 := VL hle4
  clear hle4 Zv Z4 HS3
  go_wp2_with fail
  go_at_call 39
  refine HT.out.mono ?_
  clear HT
  rintro e w2 ⟨_, _, _, rfl, _, ZY, rfl, A6, c6, rfl, hc6, rfl⟩
  obtain ⟨J5, hle5, Zo, hb5⟩ := ZY.ZR
  have hb5 : Zq J5 A6 (Zi ((n : Int) / 4 % 65536)) := hb5
  obtain ⟨J6, hle6, hs6, Z4⟩ := (Zo.alloc 24 #[.slice (some ⟨wr.heap.size, 0, none⟩) 2 2, .slice A6 (Zi ((n : Int) / 4 % 65536)).length c6, .slice A n c]).Zg
  have hcs := Cells.Yv Z4
  have HJ := VL (WC J6 (bk q 56 #[.int .i64 6, .int .u32 ZA, .int .u32 ZC, .int .u64 ZN, .int .u32 ZP, .int .u32 ZI, .int .u32 ZJ, .slice rA ZE.length rz, .string name, .slice sA ZG.length sz, .slice qA ZH.length qz, .int .u16 base, .int .u32 ref, .int .u8 count, .slice aA ZF.length az, .slice wA ZB.length wz] :: M) _ (some ⟨w2.heap.size, 0, none⟩) 3 [[byteOf (143), byteOf 205], Zi ((n : Int) / 4 % 65536), E] [.slice (some ⟨wr.heap.size, 0, none⟩) 2 2, .slice A6 (Zi ((n : Int) / 4 % 65536)).length c6, .slice A n c] hcs ⟨⟨_, 2, rfl, (HB4.out.mono hle5).mono hle6⟩, ⟨A6, c6, rfl, hb5.mono hle6⟩, ⟨A, c, by rw [HLL.out], ((HB3.out.mono HLE4.out).mono hle5).mono hle6⟩, trivial⟩ (by simp) (by have := HLL.out; simp only [List.flatten_cons, List.flatten_nil, List.length_append, List.length_cons, List.length_nil, Zz]; omega) hs6)
  have HL := VL (((HLE.out.trans HLE4.out).trans hle5).trans hle6)
  clear ZY Zo hs6 hb5 hc6 Z4 hcs hle5 hle6 HB3 HB4
  go_wp2_with fail
  go_at_call 35
  refine HJ.out.mono ?_
  clear HJ
  rintro e w4 ⟨_, _, _, rfl, _, hs7, rfl, A7, c7, rfl, hc7, rfl⟩
  have HPE := VL (show ([[byteOf (143), byteOf 205], Zi ((n : Int) / 4 % 65536), E] : List (List UInt8)).flatten = ZV (⟨6, ZA, ZC, ZN, ZP, ZI, ZJ, ZE, name, ZG, ZH, base, ref, count, ZF, ZB⟩ : Pk) by
   rw [<- HV.out, HLL.out]
   have e2 : (n : Int) / 4 % 65536 = ((n / 4 : Nat) : Int) := by omega
   rw [e2]
   simp)
  rw [HPE.out] at hs7 hc7 ⊢
  have HF := VL (show Bui I M (⟨6, ZA, ZC, ZN, ZP, ZI, ZJ, ZE, name, ZG, ZH, base, ref, count, ZF, ZB⟩ : Pk) (.returned _) w4 from YR.mk HL.out (St.ZQ hs7).drop ⟨A7, c7, rfl, rfl⟩)
  clear hs7 hc7 HPE HV
  generalize ZV (⟨6, ZA, ZC, ZN, ZP, ZI, ZJ, ZE, name, ZG, ZH, base, ref, count, ZF, ZB⟩ : Pk) = pbs at *
  go_wp2
  go_returns
  exact HF.out
end Go.Proofs.Ytddopbbmgpnjjaa
