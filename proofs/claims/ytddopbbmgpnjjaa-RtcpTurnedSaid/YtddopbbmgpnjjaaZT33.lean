/- part. -/
import Derived.Test.YtddopbbmgpnjjaaZT29
namespace Go.Proofs.Ytddopbbmgpnjjaa
set_option linter.unusedSimpArgs false
open Go.RowKit
set_option maxRecDepth 100000 in
set_option maxHeartbeats 40000000 in
theorem build7 (I : Zh) (M : List Zt) (w : World) (ZA : Int) (ZC : Int) (ZN : Int) (ZP : Int) (ZI : Int) (ZJ : Int) (base : Int) (ref : Int) (count : Int) (name : ByteArray) (ZE : List Rp) (ZG ZH ZF : List Int) (ZB : List Wn) (rA : Option Addr) (rz : Nat) (sA : Option Addr) (sz : Nat) (qA : Option Addr) (qz : Nat) (aA : Option Addr) (az : Nat) (wA : Option Addr) (wz : Nat) (cr : Cells I rA (flat Yt ZE)) (cs : Cells I sA (flat Xd ZG)) (cq : Cells I qA (flat Yp ZH)) (ca : Cells I aA (flat XC ZF)) (cw : Cells I wA (flat WO ZB)) (hok : Y6 (⟨7, ZA, ZC, ZN, ZP, ZI, ZJ, ZE, name, ZG, ZH, base, ref, count, ZF, ZB⟩ : Pk)) (hg : Good (⟨7, ZA, ZC, ZN, ZP, ZI, ZJ, ZE, name, ZG, ZH, base, ref, count, ZF, ZB⟩ : Pk)) (ZX : St I M w) :
  Calls Try.prog 18 #[.agg #[.int .i64 7, .int .u32 ZA, .int .u32 ZC, .int .u64 ZN, .int .u32 ZP, .int .u32 ZI, .int .u32 ZJ, .slice rA ZE.length rz, .string name, .slice sA ZG.length sz, .slice qA ZH.length qz, .int .u16 base, .int .u32 ref, .int .u8 count, .slice aA ZF.length az, .slice wA ZB.length wz]] w (Bui I M (⟨7, ZA, ZC, ZN, ZP, ZI, ZJ, ZE, name, ZG, ZH, base, ref, count, ZF, ZB⟩ : Pk)) := by
 have ZY := ZX.alloc 56 #[.int .i64 7, .int .u32 ZA, .int .u32 ZC, .int .u64 ZN, .int .u32 ZP, .int .u32 ZI, .int .u32 ZJ, .slice rA ZE.length rz, .string name, .slice sA ZG.length sz, .slice qA ZH.length qz, .int .u16 base, .int .u32 ref, .int .u8 count, .slice aA ZF.length az, .slice wA ZB.length wz]
 have HOK := VL hok
 have HGD := VL hg
 have hbl := Xt hg
 obtain ⟨n1, n2, n3, n4, n5, n6⟩ := Y0 hg
 have HLOW := VL (XB hg)
 simp only [] at n1 n2 n3 n4 n5 n6
 have HCR := VL cr
 have HCS := VL cs
 have HCW := VL cw
 have HCQ := VL cq
 have HCA := VL ca
 clear cr cs cq ca cw hok hg ZX
 obtain ⟨B, hB⟩ : ∃ B, B = Zu (⟨7, ZA, ZC, ZN, ZP, ZI, ZJ, ZE, name, ZG, ZH, base, ref, count, ZF, ZB⟩ : Pk) := ⟨_, rfl⟩
 rw [<- hB] at hbl
 obtain ⟨low, hlow⟩ : ∃ low, low = XV (⟨7, ZA, ZC, ZN, ZP, ZI, ZJ, ZE, name, ZG, ZH, base, ref, count, ZF, ZB⟩ : Pk) := ⟨_, rfl⟩
 obtain ⟨q, hq⟩ : ∃ q, q = w.heap.size := ⟨_, rfl⟩
 rw [<- hq] at ZY
 have HBE := VL hB
 have HLE0 := VL hlow
 clear hB hlow
 go_enter Try.func18, Try.ntmps18
 go_upto_region 1 with fail
 rw [<- hq]
 clear hq
 generalize World.alloc w _ = W at ZY ⊢
 obtain ⟨Zc, hf1, hl1⟩ := ZO.all (ZY.at 0 rfl)
 have HST := VL ZY
 clear ZY
 go_upto_region 35 with fail
 clear Zc hf1 hl1
 have YV := VL (fun (J : Zh) (w' : World) (_ : I.le J) (hs : St J (bk q 56 #[.int .i64 7, .int .u32 ZA, .int .u32 ZC, .int .u64 ZN, .int .u32 ZP, .int .u32 ZI, .int .u32 ZJ, .slice rA ZE.length rz, .string name, .slice sA ZG.length sz, .slice qA ZH.length qz, .int .u16 base, .int .u32 ref, .int .u8 count, .slice aA ZF.length az, .slice wA ZB.length wz] :: M) w') => (show ∀ i, w'.cell? ⟨q, i, none⟩ = (#[.int .i64 7, .int .u32 ZA, .int .u32 ZC, .int .u64 ZN, .int .u32 ZP, .int .u32 ZI, .int .u32 ZJ, .slice rA ZE.length rz, .string name, .slice sA ZG.length sz, .slice qA ZH.length qz, .int .u16 base, .int .u32 ref, .int .u8 count, .slice aA ZF.length az, .slice wA ZB.length wz] : Array Value)[i]? from (ZO.all (hs.at 0 rfl)).1))
 have HLB := VL (show 0 <= 1 from by omega)
 refine wp_region_held_drew (S := fun w' => ∀ i, w'.cell? ⟨q, i, none⟩ = (#[.int .i64 7, .int .u32 ZA, .int .u32 ZC, .int .u64 ZN, .int .u32 ZP, .int .u32 ZI, .int .u32 ZJ, .slice rA ZE.length rz, .string name, .slice sA ZG.length sz, .slice qA ZH.length qz, .int .u16 base, .int .u32 ref, .int .u8 count, .slice aA ZF.length az, .slice wA ZB.length wz] : Array Value)[i]?) (by kernel_rfl) (YV.out _ _ (.refl _) HST.out.drew) (fun ZL => ?_)
 refine wh 0 rfl (by kernel_rfl) (fun _ _ _ h => h) rfl ‹_› (by intro w h;go_simp;try with_reducible rfl) ?_
 try go_frame
 refine wh 1 rfl (by kernel_rfl) (fun _ _ _ h => h) rfl ‹_› (by intro w h;go_simp;try with_reducible rfl) ?_
 try go_frame
 refine wh 3 rfl (by kernel_rfl) (fun _ _ _ h => h) rfl ‹_› (by intro w h;go_simp;try with_reducible rfl) ?_
 try go_frame
 refine wh 4 rfl (by kernel_rfl) (fun _ _ _ h => h) rfl ‹_› (by intro w h;go_simp;try with_reducible rfl) ?_
 try go_frame
 refine WR (I := I) (M := bk q 56 #[.int .i64 7, .int .u32 ZA, .int .u32 ZC, .int .u64 ZN, .int .u32 ZP, .int .u32 ZI, .int .u32 ZJ, .slice rA ZE.length rz, .string name, .slice sA ZG.length sz, .slice qA ZH.length qz, .int .u16 base, .int .u32 ref, .int .u8 count, .slice aA ZF.length az, .slice wA ZB.length wz] :: M) (l := [(2, 168, ZM ZA), (5, 171, ZM ZC)]) 3 (by kernel_rfl) (by simp only [List.map_cons, List.map_nil]; decide) (by simp only [List.map_cons, List.map_nil]; decide) YV.out HST.out.drew ?_ ?_
 ·refine List.forall_mem_cons.2 ⟨?_, List.forall_mem_cons.2 ⟨?_, fun _ h => by cases h⟩⟩
  ·refine YI.call (o := _) rfl rfl rfl rfl (fun _ _ => rfl) ?_ (fun J w Z5 hs => (Yk J _ w (ZA) (HOK.out.ZA) hs).mono (fun _ _ h => h))
   intro xf; simp [Act.over, Zm, Act.eval]
  refine YI.call (o := _) rfl rfl rfl rfl (fun _ _ => rfl) ?_ (fun J w Z5 hs => (Yk J _ w (ZC) (HOK.out.ZC) hs).mono (fun _ _ h => h))
  intro xf; simp [Act.over, Zm, Act.eval]
 intro xf J w Z5 hs hx
 have r0 : Xy (ZM ZA) (xf 168) J := hx (2, 168, ZM ZA) (by simp)
 have r1 : Xy (ZM ZC) (xf 171) J := hx (5, 171, ZM ZC) (by simp)
 simp only [List.map_cons, List.map_nil, Act.over, Zm, List.foldl_cons, List.foldl_nil, List.setIfInBounds_toArray, List.set_cons_zero, List.set_cons_succ]
 generalize xf 168 = v168 at *
 obtain ⟨A168, c168, rfl, b168⟩ := r0
 generalize xf 171 = v171 at *
 obtain ⟨A171, c171, rfl, b171⟩ := r1
 clear hx
 refine wpAnyH_ready (rs := [6]) (by kernel_rfl) (by simp) ?_
 refine AllReadyH.cons (o := _) rfl (fun K hK => ?_) AllReadyH.nil
 go_simp
 try clear ZL
 refine hK.out _ _ (YV.out J _ Z5 (hs.grow _)) (fun ZL => ?_)
 clear hK K
 try go_frame
 obtain ⟨J2, Zd, YN, Z4⟩ := (hs.alloc 24 #[.slice A168 (ZM ZA).length c168, .slice A171 (ZM ZC).length c171]).Zg
 have hcs := Cells.Yv Z4
 refine wpAnyH_ready (rs := [7]) (by kernel_rfl) (by simp) ?_
 refine AllReadyH.cons (o := _) rfl (fun K hK => ?_) AllReadyH.nil
 go_simp
 go_at_call 35
 refine (WC J2 (bk q 56 #[.int .i64 7, .int .u32 ZA, .int .u32 ZC, .int .u64 ZN, .int .u32 ZP, .int .u32 ZI, .int .u32 ZJ, .slice rA ZE.length rz, .string name, .slice sA ZG.length sz, .slice qA ZH.length qz, .int .u16 base, .int .u32 ref, .int .u8 count, .slice aA ZF.length az, .slice wA ZB.length wz] :: M) _ (some ⟨w.heap.size, 0, none⟩) 2 [ZM ZA, ZM ZC] [.slice A168 (ZM ZA).length c168, .slice A171 (ZM ZC).length c171] hcs ⟨⟨A168, c168, rfl, b168.mono Zd⟩, ⟨A171, c171, rfl, b171.mono Zd⟩, trivial⟩ (by simp) (by have := HLB.out; simp only [List.flatten_cons, List.flatten_nil, List.length_append, List.length_cons, List.length_nil, Zy, Zz]; omega) YN).mono ?_
 rintro e w3 ⟨_, _, _, rfl, _, Zf, rfl, A3, c3, rfl, hc3, rfl⟩
 obtain ⟨fl, hfl⟩ : ∃ z : List UInt8, z = ([ZM ZA, ZM ZC] : List (List UInt8)).flatten := ⟨_, rfl⟩
 rw [<- hfl] at Zf hc3 ⊢
 have HFLAT := VL hfl
 clear hfl
 try clear ZL
 refine hK.out _ _ (YV.out J2 _ (Z5.trans Zd) Zf.drop) (fun ZL => ?_)
 clear hK K
 try go_frame
 refine wh 8 rfl (by kernel_rfl) (fun _ _ _ h => h) rfl ‹_› (by intro w h;go_simp;try with_reducible rfl) ?_
 try go_frame
 refine wpAnyH_done (by kernel_rfl) ?_ _
 have hbq : fl = B := by rw [HFLAT.out, HBE.out]; exact body7 HGD.out
 subst hbq
 have HS := VL Zf
 have HLE := VL (Z5.trans Zd)
 clear hs YN Zf ZL Z5 Zd hcs Z4 HFLAT
 generalize A3 = A4 at *
 go_upto_region 36 with fail
 go_loopw [3] (fun bv wr => ∃ (A : Option Addr) (n c : Nat), bv = .slice A n c /\ n <= 4000 /\ Hid (∃ (j : Nat) (J : Zh), n = fl.length + j /\ j <= (4 - fl.length % 4) % 4 /\ I.le J /\ St J (row 5 1 (.slice A n c) n (Z6 (fl ++ List.replicate j 0)) :: bk q 56 #[.int .i64 7, .int .u32 ZA, .int .u32 ZC, .int .u64 ZN, .int .u32 ZP, .int .u32 ZI, .int .u32 ZJ, .slice rA ZE.length rz, .string name, .slice sA ZG.length sz, .slice qA ZH.length qz, .int .u16 base, .int .u32 ref, .int .u8 count, .slice aA ZF.length az, .slice wA ZB.length wz] :: M) wr)) (fun bv _ => (4 - sliceLen bv % 4) % 4)
 case atStart => exact ⟨_, _, _, rfl, by omega, VL ⟨0, J2, rfl, Nat.zero_le _, HLE.out, by simpa using HS.out⟩⟩
 case round =>
  obtain ⟨A, n, c, rfl, hn, hh⟩ := hrel
  obtain ⟨j, J, hnj, hj, Z5, hs⟩ := hh.out
  clear hh HS HLE
  have hln : (fl ++ List.replicate j 0).length = n := by rw [hnj]; simp
  have HLN := VL hln
  have HRP := VL (X9 j)
  have HNJ := VL hnj
  by_cases Z0 : j < (4 - fl.length % 4) % 4
  ·have hm : ((n : Int) % 4 != 0) = true := by rw [bne_iff_ne]; omega
   obtain ⟨J3, YL, Zf, Z4⟩ := (hs.alloc 5 #[.int .u8 0]).Zg
   have HB1 := VL (show Xy [0] (.slice (some ⟨wr.heap.size, 0, none⟩) 1 1) J3 from ⟨_, 1, rfl, Zq.Yv Z4 rfl⟩)
   obtain ⟨bl, hbe⟩ : ∃ bl, bl = fl ++ List.replicate j 0 := ⟨_, rfl⟩
   rw [<- hbe] at Zf hln
   rw [<- hln] at Zf
   have HBL := VL hbe
   have HS3 := VL Zf
   have HLE := VL (Z5.trans YL)
   have HLT := VL Z0
   have HLL := VL hln
   clear hbe Z5 YL hs Zf Z4 hnj hj hln Z0
   go_wp2_with (at_builtin; refine Yq rfl _ _ rfl J3 _ _ _ _ _ (by rw [HLL.out]; rfl) rfl HS3.out HB1.out (by have := HLL.out; simp only [List.length_cons, List.length_nil]; omega) ?_)
   intro v3 w3 Zv
   obtain ⟨A5, c5, rfl⟩ := ZW (show World.ownsRow _ 0 5 1 v3 _ _ from St.at Zv 0 rfl)
   have hl5 : (bl ++ [0]).length = n + 1 := by rw [List.length_append, HLL.out]; rfl
   have Zo := show St J3 _ w3 from Zv
   rw [hl5] at Zo ⊢
   have HS5 := VL Zo
   clear Zv Zo HS3 HB1 hl5
   go_wp2
   go_roundw
   case rel =>
    refine ⟨A5, n + 1, c5, rfl, by have := HLT.out; have := HNJ.out; omega, VL ⟨j + 1, J3, by have := HNJ.out; omega, by have := HLT.out; omega, HLE.out, ?_⟩⟩
    have := HS5.out
    rw [HBL.out, List.append_assoc, <- HRP.out] at this
    exact this
   case measure =>
    have h1 := HNJ.out
    have h2 := HLT.out
    show (4 - (n + 1) % 4) % 4 < (4 - n % 4) % 4
    omega
  have hm : ((n : Int) % 4 != 0) = false := by rw [bne_eq_false_iff_eq]; omega
  have hjj : j = (4 - fl.length % 4) % 4 := by omega
  rw [hjj, WM] at hs hln
  obtain ⟨E, hE⟩ : ∃ E, E = YH fl := ⟨_, rfl⟩
  rw [<- hE] at hs hln
  have HE := VL hE
  obtain ⟨J3, YL, Zf, hb3⟩ := hs.ZR
  have HS3 := VL Zf
  have HB3 := VL (show Zq J3 A E from hb3)
  have HLE := VL (Z5.trans YL)
  have HLL := VL hln
  clear hs Zf hb3 Z5 YL hE hln hnj hj hjj Z0
  have HV := VL (show [byteOf (129), byteOf 206] ++ Zi ((E.length / 4 : Nat) : Int) ++ E = ZV (⟨7, ZA, ZC, ZN, ZP, ZI, ZJ, ZE, name, ZG, ZH, base, ref, count, ZF, ZB⟩ : Pk) by
   have e1 : 128 + low = 129 := by rw [HLE0.out]; rfl
   rw [<- e1, HLE0.out, HE.out, HBE.out]
   rfl)
  obtain ⟨J4, hle4, Zv, Z4⟩ := (HS3.out.alloc 5 #[.int .u8 (129), .int .u8 206]).Zg
  have HB4 := VL (show Zq J4 (some ⟨wr.heap.size, 0, none⟩) [byteOf (129), byteOf 206] from Zq.Yv Z4 (WS (by omega) (by omega)))
  have HT := VL (twoR J4 _ _ ((n : Int) / 4) Zv)
  have HLE4 := VL hle4
  clear hle4 Zv Z4 HS3
  go_wp2_with fail
  go_at_call 39
  refine HT.out.mono ?_
  clear HT
  rintro e w2 ⟨_, _, _, rfl, _, ZY, rfl, A6, c6, rfl, hc6, rfl⟩
  obtain ⟨J5, hle5, Zo, hb5⟩ := ZY.ZR
  have hb5 : Zq J5 A6 (Zi ((n : Int) / 4 % 65536)) := hb5
  obtain ⟨J6, hle6, hs6, Z4⟩ := (Zo.alloc 24 #[.slice (some ⟨wr.heap.size, 0, none⟩) 2 2, .slice A6 (Zi ((n : Int) / 4 % 65536)).length c6, .slice A n c]).Zg
  have hcs := Cells.Yv Z4
  have HJ := VL (WC J6 (bk q 56 #[.int .i64 7, .int .u32 ZA, .int .u32 ZC, .int .u64 ZN, .int .u32 ZP, .int .u32 ZI, .int .u32 ZJ, .slice rA ZE.length rz, .string name, .slice sA ZG.length sz, .slice qA ZH.length qz, .int .u16 base, .int .u32 ref, .int .u8 count, .slice aA ZF.length az, .slice wA ZB.length wz] :: M) _ (some ⟨w2.heap.size, 0, none⟩) 3 [[byteOf (129), byteOf 206], Zi ((n : Int) / 4 % 65536), E] [.slice (some ⟨wr.heap.size, 0, none⟩) 2 2, .slice A6 (Zi ((n : Int) / 4 % 65536)).length c6, .slice A n c] hcs ⟨⟨_, 2, rfl, (HB4.out.mono hle5).mono hle6⟩, ⟨A6, c6, rfl, hb5.mono hle6⟩, ⟨A, c, by rw [HLL.out], ((HB3.out.mono HLE4.out).mono hle5).mono hle6⟩, trivial⟩ (by simp) (by have := HLL.out; simp only [List.flatten_cons, List.flatten_nil, List.length_append, List.length_cons, List.length_nil, Zz]; omega) hs6)
  have HL := VL (((HLE.out.trans HLE4.out).trans hle5).trans hle6)
  clear ZY Zo hs6 hb5 hc6 Z4 hcs hle5 hle6 HB3 HB4
  go_wp2_with fail
  go_at_call 35
  refine HJ.out.mono ?_
  clear HJ
  rintro e w4 ⟨_, _, _, rfl, _, hs7, rfl, A7, c7, rfl, hc7, rfl⟩
  have HPE := VL (show ([[byteOf (129), byteOf 206], Zi ((n : Int) / 4 % 65536), E] : List (List UInt8)).flatten = ZV (⟨7, ZA, ZC, ZN, ZP, ZI, ZJ, ZE, name, ZG, ZH, base, ref, count, ZF, ZB⟩ : Pk) by
   rw [<- HV.out, HLL.out]
   have e2 : (n : Int) / 4 % 65536 = ((n / 4 : Nat) : Int) := by omega
   rw [e2]
   simp)
  rw [HPE.out] at hs7 hc7 ⊢
  have HF := VL (show Bui I M (⟨7, ZA, ZC, ZN, ZP, ZI, ZJ, ZE, name, ZG, ZH, base, ref, count, ZF, ZB⟩ : Pk) (.returned _) w4 from YR.mk HL.out (St.ZQ hs7).drop ⟨A7, c7, rfl, rfl⟩)
  clear hs7 hc7 HPE HV
  generalize ZV (⟨7, ZA, ZC, ZN, ZP, ZI, ZJ, ZE, name, ZG, ZH, base, ref, count, ZF, ZB⟩ : Pk) = pbs at *
  go_wp2
  go_returns
  exact HF.out
set_option maxRecDepth 100000 in
set_option maxHeartbeats 40000000 in
theorem build8 (I : Zh) (M : List Zt) (w : World) (ZA : Int) (ZC : Int) (ZN : Int) (ZP : Int) (ZI : Int) (ZJ : Int) (base : Int) (ref : Int) (count : Int) (name : ByteArray) (ZE : List Rp) (ZG ZH ZF : List Int) (ZB : List Wn) (rA : Option Addr) (rz : Nat) (sA : Option Addr) (sz : Nat) (qA : Option Addr) (qz : Nat) (aA : Option Addr) (az : Nat) (wA : Option Addr) (wz : Nat) (cr : Cells I rA (flat Yt ZE)) (cs : Cells I sA (flat Xd ZG)) (cq : Cells I qA (flat Yp ZH)) (ca : Cells I aA (flat XC ZF)) (cw : Cells I wA (flat WO ZB)) (hok : Y6 (⟨8, ZA, ZC, ZN, ZP, ZI, ZJ, ZE, name, ZG, ZH, base, ref, count, ZF, ZB⟩ : Pk)) (hg : Good (⟨8, ZA, ZC, ZN, ZP, ZI, ZJ, ZE, name, ZG, ZH, base, ref, count, ZF, ZB⟩ : Pk)) (ZX : St I M w) :
  Calls Try.prog 18 #[.agg #[.int .i64 8, .int .u32 ZA, .int .u32 ZC, .int .u64 ZN, .int .u32 ZP, .int .u32 ZI, .int .u32 ZJ, .slice rA ZE.length rz, .string name, .slice sA ZG.length sz, .slice qA ZH.length qz, .int .u16 base, .int .u32 ref, .int .u8 count, .slice aA ZF.length az, .slice wA ZB.length wz]] w (Bui I M (⟨8, ZA, ZC, ZN, ZP, ZI, ZJ, ZE, name, ZG, ZH, base, ref, count, ZF, ZB⟩ : Pk)) := by
 have hwl : 1 <= ZB.length := by rcases hg.1 with h | h | h | h | h | h | h <;> simp at h; exact h.1
 obtain ⟨g, o, rfl, hcellw⟩ := flat_get (s := 2) (fun _ => rfl) cw (by omega) (by decide)
 have HCELL := VL hcellw
 clear hcellw
 have ZY := ZX.alloc 56 #[.int .i64 8, .int .u32 ZA, .int .u32 ZC, .int .u64 ZN, .int .u32 ZP, .int .u32 ZI, .int .u32 ZJ, .slice rA ZE.length rz, .string name, .slice sA ZG.length sz, .slice qA ZH.length qz, .int .u16 base, .int .u32 ref, .int .u8 count, .slice aA ZF.length az, .slice (some ⟨g, o, none⟩) ZB.length wz]
 have HOK := VL hok
 have HGD := VL hg
 have hbl := Xt hg
 obtain ⟨n1, n2, n3, n4, n5, n6⟩ := Y0 hg
 have HLOW := VL (XB hg)
 simp only [] at n1 n2 n3 n4 n5 n6
 have HCR := VL cr
 have HCS := VL cs
 have HCW := VL True.intro
 have HCQ := VL cq
 have HCA := VL ca
 clear cr cs cq ca cw hok hg ZX
 obtain ⟨B, hB⟩ : ∃ B, B = Zu (⟨8, ZA, ZC, ZN, ZP, ZI, ZJ, ZE, name, ZG, ZH, base, ref, count, ZF, ZB⟩ : Pk) := ⟨_, rfl⟩
 rw [<- hB] at hbl
 obtain ⟨low, hlow⟩ : ∃ low, low = XV (⟨8, ZA, ZC, ZN, ZP, ZI, ZJ, ZE, name, ZG, ZH, base, ref, count, ZF, ZB⟩ : Pk) := ⟨_, rfl⟩
 obtain ⟨q, hq⟩ : ∃ q, q = w.heap.size := ⟨_, rfl⟩
 rw [<- hq] at ZY
 have HBE := VL hB
 have HLE0 := VL hlow
 clear hB hlow
 go_enter Try.func18, Try.ntmps18
 go_upto_region 1 with fail
 rw [<- hq]
 clear hq
 generalize World.alloc w _ = W at ZY ⊢
 obtain ⟨Zc, hf1, hl1⟩ := ZO.all (ZY.at 0 rfl)
 have HST := VL ZY
 clear ZY
 go_upto_region 5 with fail
 clear Zc hf1 hl1
 have YV := VL (fun (J : Zh) (w' : World) (_ : I.le J) (hs : St J (bk q 56 #[.int .i64 8, .int .u32 ZA, .int .u32 ZC, .int .u64 ZN, .int .u32 ZP, .int .u32 ZI, .int .u32 ZJ, .slice rA ZE.length rz, .string name, .slice sA ZG.length sz, .slice qA ZH.length qz, .int .u16 base, .int .u32 ref, .int .u8 count, .slice aA ZF.length az, .slice (some ⟨g, o, none⟩) ZB.length wz] :: M) w') => (show ∀ i, w'.cell? ⟨q, i, none⟩ = (#[.int .i64 8, .int .u32 ZA, .int .u32 ZC, .int .u64 ZN, .int .u32 ZP, .int .u32 ZI, .int .u32 ZJ, .slice rA ZE.length rz, .string name, .slice sA ZG.length sz, .slice qA ZH.length qz, .int .u16 base, .int .u32 ref, .int .u8 count, .slice aA ZF.length az, .slice (some ⟨g, o, none⟩) ZB.length wz] : Array Value)[i]? from (ZO.all (hs.at 0 rfl)).1))
 have HLB := VL (show 0 <= 1 from by omega)
 refine wp_region_held_drew (S := fun w' => ∀ i, w'.cell? ⟨q, i, none⟩ = (#[.int .i64 8, .int .u32 ZA, .int .u32 ZC, .int .u64 ZN, .int .u32 ZP, .int .u32 ZI, .int .u32 ZJ, .slice rA ZE.length rz, .string name, .slice sA ZG.length sz, .slice qA ZH.length qz, .int .u16 base, .int .u32 ref, .int .u8 count, .slice aA ZF.length az, .slice (some ⟨g, o, none⟩) ZB.length wz] : Array Value)[i]?) (by kernel_rfl) (YV.out _ _ (.refl _) HST.out.drew) (fun ZL => ?_)
 refine wh 0 rfl (by kernel_rfl) (fun _ _ _ h => h) rfl ‹_› (by intro w h;go_simp;try with_reducible rfl) ?_
 try go_frame
 refine wh 1 rfl (by kernel_rfl) (fun _ _ _ h => h) rfl ‹_› (by intro w h;go_simp;try with_reducible rfl) ?_
 try go_frame
 refine wh 3 rfl (by kernel_rfl) (fun _ _ _ h => h) rfl ‹_› (by intro w h;go_simp;try with_reducible rfl) ?_
 try go_frame
 refine wh 4 rfl (by kernel_rfl) (fun _ _ _ h => h) rfl ‹_› (by intro w h;go_simp;try with_reducible rfl) ?_
 try go_frame
 refine WR (I := I) (M := bk q 56 #[.int .i64 8, .int .u32 ZA, .int .u32 ZC, .int .u64 ZN, .int .u32 ZP, .int .u32 ZI, .int .u32 ZJ, .slice rA ZE.length rz, .string name, .slice sA ZG.length sz, .slice qA ZH.length qz, .int .u16 base, .int .u32 ref, .int .u8 count, .slice aA ZF.length az, .slice (some ⟨g, o, none⟩) ZB.length wz] :: M) (l := [(2, 12, ZM ZA), (5, 15, ZM ZC)]) 3 (by kernel_rfl) (by simp only [List.map_cons, List.map_nil]; decide) (by simp only [List.map_cons, List.map_nil]; decide) YV.out HST.out.drew ?_ ?_
 ·refine List.forall_mem_cons.2 ⟨?_, List.forall_mem_cons.2 ⟨?_, fun _ h => by cases h⟩⟩
  ·refine YI.call (o := _) rfl rfl rfl rfl (fun _ _ => rfl) ?_ (fun J w Z5 hs => (Yk J _ w (ZA) (HOK.out.ZA) hs).mono (fun _ _ h => h))
   intro xf; simp [Act.over, Zm, Act.eval]
  refine YI.call (o := _) rfl rfl rfl rfl (fun _ _ => rfl) ?_ (fun J w Z5 hs => (Yk J _ w (ZC) (HOK.out.ZC) hs).mono (fun _ _ h => h))
  intro xf; simp [Act.over, Zm, Act.eval]
 intro xf J w Z5 hs hx
 have r0 : Xy (ZM ZA) (xf 12) J := hx (2, 12, ZM ZA) (by simp)
 have r1 : Xy (ZM ZC) (xf 15) J := hx (5, 15, ZM ZC) (by simp)
 simp only [List.map_cons, List.map_nil, Act.over, Zm, List.foldl_cons, List.foldl_nil, List.setIfInBounds_toArray, List.set_cons_zero, List.set_cons_succ]
 generalize xf 12 = v12 at *
 obtain ⟨A12, c12, rfl, b12⟩ := r0
 generalize xf 15 = v15 at *
 obtain ⟨A15, c15, rfl, b15⟩ := r1
 clear hx
 refine wpAnyH_ready (rs := [6]) (by kernel_rfl) (by simp) ?_
 refine AllReadyH.cons (o := _) rfl (fun K hK => ?_) AllReadyH.nil
 go_simp
 try clear ZL
 refine hK.out _ _ (YV.out J _ Z5 (hs.grow _)) (fun ZL => ?_)
 clear hK K
 try go_frame
 obtain ⟨J2, Zd, YN, Z4⟩ := (hs.alloc 24 #[.slice A12 (ZM ZA).length c12, .slice A15 (ZM ZC).length c15]).Zg
 have hcs := Cells.Yv Z4
 refine wpAnyH_ready (rs := [7]) (by kernel_rfl) (by simp) ?_
 refine AllReadyH.cons (o := _) rfl (fun K hK => ?_) AllReadyH.nil
 go_simp
 go_at_call 35
 refine (WC J2 (bk q 56 #[.int .i64 8, .int .u32 ZA, .int .u32 ZC, .int .u64 ZN, .int .u32 ZP, .int .u32 ZI, .int .u32 ZJ, .slice rA ZE.length rz, .string name, .slice sA ZG.length sz, .slice qA ZH.length qz, .int .u16 base, .int .u32 ref, .int .u8 count, .slice aA ZF.length az, .slice (some ⟨g, o, none⟩) ZB.length wz] :: M) _ (some ⟨w.heap.size, 0, none⟩) 2 [ZM ZA, ZM ZC] [.slice A12 (ZM ZA).length c12, .slice A15 (ZM ZC).length c15] hcs ⟨⟨A12, c12, rfl, b12.mono Zd⟩, ⟨A15, c15, rfl, b15.mono Zd⟩, trivial⟩ (by simp) (by have := HLB.out; simp only [List.flatten_cons, List.flatten_nil, List.length_append, List.length_cons, List.length_nil, Zy, Zz]; omega) YN).mono ?_
 rintro e w3 ⟨_, _, _, rfl, _, Zf, rfl, A3, c3, rfl, hc3, rfl⟩
 obtain ⟨fl, hfl⟩ : ∃ z : List UInt8, z = ([ZM ZA, ZM ZC] : List (List UInt8)).flatten := ⟨_, rfl⟩
 rw [<- hfl] at Zf hc3 ⊢
 have HFLAT := VL hfl
 clear hfl
 try clear ZL
 refine hK.out _ _ (YV.out J2 _ (Z5.trans Zd) Zf.drop) (fun ZL => ?_)
 clear hK K
 try go_frame
 refine wh 8 rfl (by kernel_rfl) (fun _ _ _ h => h) rfl ‹_› (by intro w h;go_simp;try with_reducible rfl) ?_
 try go_frame
 refine wpAnyH_done (by kernel_rfl) ?_ _
 have HS := VL Zf
 have HLE := VL (Z5.trans Zd)
 have HFL0 := VL HFLAT.out
 clear hs YN Zf ZL Z5 Zd hcs Z4 HFLAT hc3
 obtain ⟨hcq, hfq, hlq⟩ := ZO.all (HS.out.at 1 rfl)
 go_upto_region 7 with fail
 clear hcq hfq hlq
 have HFL8 := VL (show fl.length = 8 by rw [HFL0.out]; simp [Zy])
 go_loopw [3, 21] (fun bv iv wr => ∃ (A : Option Addr) (n c i : Nat), bv = .slice A n c /\ iv = .int .i64 i /\ i <= ZB.length /\ n = 8 + 8 * i /\ Hid (∃ (J : Zh), I.le J /\ St J (row 5 1 (.slice A n c) n (Z6 (fl ++ (ZB.take i).flatMap XU)) :: bk q 56 #[.int .i64 8, .int .u32 ZA, .int .u32 ZC, .int .u64 ZN, .int .u32 ZP, .int .u32 ZI, .int .u32 ZJ, .slice rA ZE.length rz, .string name, .slice sA ZG.length sz, .slice qA ZH.length qz, .int .u16 base, .int .u32 ref, .int .u8 count, .slice aA ZF.length az, .slice (some ⟨g, o, none⟩) ZB.length wz] :: M) wr)) (fun _ iv _ => ZB.length - (intOf iv).toNat)
 case atStart => exact ⟨_, _, _, 0, rfl, rfl, by omega, HFL8.out, VL ⟨_, HLE.out, by simpa using HS.out⟩⟩
 case round =>
  obtain ⟨A, n, c, i, rfl, rfl, hi, hn, hh⟩ := hrel
  obtain ⟨J0, hle0, hs0⟩ := hh.out
  clear hh HS HLE
  by_cases Z0 : i < ZB.length
  ·skip
   have hcl : ∀ (M' : List Zt) (J' : Zh) (w' : World), J0.le J' -> St J' M' w' -> ∀ j, j < 2 -> w'.cell? ⟨g, o + i * 2 + j, none⟩ = (WO ZB[i])[j]? := fun M' J' w' hl h j hj => HCELL.out _ _ (h.less (hle0.trans hl)) i Z0 j hj
   have hm := HOK.out.ZB _ (List.getElem_mem Z0)
   have hsn := Yr XU ZB i Z0
   generalize ZB[i] = x at hcl hm hsn
   have HCL := VL hcl
   have HM := VL hm
   have hm2 := hm.2
   obtain ⟨q1, q2⟩ := hm2
   have hjw : IntKind.i64.wrap (i : Int) = (i : Int) := wrap_i64 (by omega) (by omega)
   obtain ⟨bl, hbe⟩ : ∃ bl, bl = fl ++ (ZB.take i).flatMap XU := ⟨_, rfl⟩
   have hbl2 : bl.length = n := by have hfl8 := HFL8.out; rw [hbe, List.length_append, YD (s := 8) (fun _ => rfl), List.length_take]; omega
   rw [<- hbe] at hs0
   obtain ⟨J1, hle1, ZY, hb1⟩ := hs0.ZR
   have HB1 := VL (show Zq J1 A bl from hb1)
   have HSN := VL (And.intro hbe hsn)
   have HST := VL ZY
   have HLE := VL (hle0.trans hle1)
   have HLB := VL (show bl.length <= 100 by omega)
   have HBL2 := VL hbl2
   have HN := VL hn
   have HSS2 := VL (fun (J : Zh) (w' : World) (hl : J1.le J) (hs : St J (bk q 56 #[.int .i64 8, .int .u32 ZA, .int .u32 ZC, .int .u64 ZN, .int .u32 ZP, .int .u32 ZI, .int .u32 ZJ, .slice rA ZE.length rz, .string name, .slice sA ZG.length sz, .slice qA ZH.length qz, .int .u16 base, .int .u32 ref, .int .u8 count, .slice aA ZF.length az, .slice (some ⟨g, o, none⟩) ZB.length wz] :: M) w') => (show (∀ i, w'.cell? ⟨q, i, none⟩ = (#[.int .i64 8, .int .u32 ZA, .int .u32 ZC, .int .u64 ZN, .int .u32 ZP, .int .u32 ZI, .int .u32 ZJ, .slice rA ZE.length rz, .string name, .slice sA ZG.length sz, .slice qA ZH.length qz, .int .u16 base, .int .u32 ref, .int .u8 count, .slice aA ZF.length az, .slice (some ⟨g, o, none⟩) ZB.length wz] : Array Value)[i]?) /\ w'.cell? ⟨g, o + i * 2, none⟩ = some (.int .u32 x.src) /\ w'.cell? ⟨g, o + i * 2 + 1, none⟩ = some (.int .u8 x.seq) from ⟨(ZO.all (hs.at 0 rfl)).1, HCL.out _ J w' (hle1.trans hl) hs 0 (by decide), HCL.out _ J w' (hle1.trans hl) hs 1 (by decide)⟩))
   clear hs0 ZY hle0 hle1 hb1 hcl hsn hbe hm hn hbl2
   go_upto_region 9 with fail
   refine wp_region_held_drew (S := fun w' => (∀ i, w'.cell? ⟨q, i, none⟩ = (#[.int .i64 8, .int .u32 ZA, .int .u32 ZC, .int .u64 ZN, .int .u32 ZP, .int .u32 ZI, .int .u32 ZJ, .slice rA ZE.length rz, .string name, .slice sA ZG.length sz, .slice qA ZH.length qz, .int .u16 base, .int .u32 ref, .int .u8 count, .slice aA ZF.length az, .slice (some ⟨g, o, none⟩) ZB.length wz] : Array Value)[i]?) /\ w'.cell? ⟨g, o + i * 2, none⟩ = some (.int .u32 x.src) /\ w'.cell? ⟨g, o + i * 2 + 1, none⟩ = some (.int .u8 x.seq)) (by kernel_rfl) (HSS2.out _ _ (.refl _) HST.out.drew) (fun ZL => ?_)
   refine wh 0 rfl (by kernel_rfl) (fun _ _ _ h => h) rfl ‹_› (by intro w h;go_simp;try with_reducible rfl) ?_
   try go_frame
   refine wh 1 rfl (by kernel_rfl) (fun _ _ _ h => h) rfl ‹_› (by intro w h;go_simp;try with_reducible rfl) ?_
   try go_frame
   refine wh 2 rfl (by kernel_rfl) (fun _ _ _ h => h) rfl ‹_› (by intro w h;go_simp;try with_reducible rfl) ?_
   try go_frame
   refine wh 3 rfl (by kernel_rfl) (fun _ _ _ h => h) rfl ‹_› (by intro w h;go_simp;try with_reducible rfl) ?_
   try go_frame
   refine wh 4 rfl (by kernel_rfl) (fun _ _ _ h => h) rfl ‹_› (by intro w h;go_simp;try with_reducible rfl) ?_
   try go_frame
   refine wh 5 rfl (by kernel_rfl) (fun _ _ _ h => h) rfl ‹_› (by intro w h;go_simp;try with_reducible rfl) ?_
   try go_frame
   refine wh 6 rfl (by kernel_rfl) (fun _ _ _ h => h) rfl ‹_› (by intro w h;go_simp;try with_reducible rfl) ?_
   try go_frame
   refine wh 8 rfl (by kernel_rfl) (fun _ _ _ h => h) rfl ‹_› (by intro w h;go_simp;try with_reducible rfl) ?_
   try go_frame
   refine wh 9 rfl (by kernel_rfl) (fun _ _ _ h => h) rfl ‹_› (by intro w h;go_simp;try with_reducible rfl) ?_
   try go_frame
   refine wh 10 rfl (by kernel_rfl) (fun _ _ _ h => h) rfl ‹_› (by intro w h;go_simp;try with_reducible rfl) ?_
   try go_frame
   refine wh 11 rfl (by kernel_rfl) (fun _ _ _ h => h) rfl ‹_› (by intro w h;go_simp;try with_reducible rfl) ?_
   try go_frame
   refine wh 12 rfl (by kernel_rfl) (fun _ _ _ h => h) rfl ‹_› (by intro w h;go_simp;try with_reducible rfl) ?_
   try go_frame
   refine wh 13 rfl (by kernel_rfl) (fun _ _ _ h => h) rfl ‹_› (by intro w h;go_simp;try with_reducible rfl) ?_
   try go_frame
   refine WR (I := J1) (M := bk q 56 #[.int .i64 8, .int .u32 ZA, .int .u32 ZC, .int .u64 ZN, .int .u32 ZP, .int .u32 ZI, .int .u32 ZJ, .slice rA ZE.length rz, .string name, .slice sA ZG.length sz, .slice qA ZH.length qz, .int .u16 base, .int .u32 ref, .int .u8 count, .slice aA ZF.length az, .slice (some ⟨g, o, none⟩) ZB.length wz] :: M) (l := [(7, 31, ZM x.src), (14, 38, [byteOf x.seq, byteOf 0, byteOf 0, byteOf 0])]) 3 (by kernel_rfl) (by simp only [List.map_cons, List.map_nil]; decide) (by simp only [List.map_cons, List.map_nil]; decide) HSS2.out HST.out.drew ?_ ?_
   ·refine List.forall_mem_cons.2 ⟨?_, List.forall_mem_cons.2 ⟨?_, fun _ h => by cases h⟩⟩
    ·refine YI.call (o := _) rfl rfl rfl rfl (fun _ _ => rfl) ?_ (fun J w Z5 hs => (Yk J _ w (x.src) (HM.out.1) hs).mono (fun _ _ h => h))
     intro xf; simp [Act.over, Zm, Act.eval]
    refine YI.lit (o := _) rfl rfl rfl rfl (fun xf J w Z5 hs => ?_)
    obtain ⟨J9, hle9, hs9, Z4⟩ := (hs.alloc 5 #[.int .u8 x.seq, .int .u8 0, .int .u8 0, .int .u8 0]).Zg
    refine ⟨.slice (some ⟨w.heap.size, 0, none⟩) 4 4, J9, w.alloc (.cells #[.int .u8 x.seq, .int .u8 0, .int .u8 0, .int .u8 0] 5), ?_, hle9, hs9, ⟨_, 4, rfl, Zq.Yv Z4 (lit_four q1 (by omega))⟩⟩
    simp only [Act.over, Zm, List.map_cons, List.map_nil, List.foldl_cons, List.foldl_nil, List.setIfInBounds_toArray, List.set_cons_zero, List.set_cons_succ]
    kernel_rfl
   intro xf J w Z5 hs hx
   have r0 : Xy (ZM x.src) (xf 31) J := hx (7, 31, ZM x.src) (by simp)
   have r1 : Xy ([byteOf x.seq, byteOf 0, byteOf 0, byteOf 0]) (xf 38) J := hx (14, 38, [byteOf x.seq, byteOf 0, byteOf 0, byteOf 0]) (by simp)
   simp only [List.map_cons, List.map_nil, Act.over, Zm, List.foldl_cons, List.foldl_nil, List.setIfInBounds_toArray, List.set_cons_zero, List.set_cons_succ]
   generalize xf 31 = v31 at *
   obtain ⟨A31, c31, rfl, b31⟩ := r0
   generalize xf 38 = v38 at *
   obtain ⟨A38, c38, rfl, b38⟩ := r1
   clear hx
   refine wpAnyH_ready (rs := [15]) (by kernel_rfl) (by simp) ?_
   refine AllReadyH.cons (o := _) rfl (fun K hK => ?_) AllReadyH.nil
   go_simp
   try clear ZL
   refine hK.out _ _ (HSS2.out J _ Z5 (hs.grow _)) (fun ZL => ?_)
   clear hK K
   try go_frame
   obtain ⟨J2, Zd, YN, Z4⟩ := (hs.alloc 24 #[.slice A n c, .slice A31 (ZM x.src).length c31, .slice A38 ([byteOf x.seq, byteOf 0, byteOf 0, byteOf 0]).length c38]).Zg
   have hcs := Cells.Yv Z4
   refine wpAnyH_ready (rs := [16]) (by kernel_rfl) (by simp) ?_
   refine AllReadyH.cons (o := _) rfl (fun K hK => ?_) AllReadyH.nil
   go_simp
   go_at_call 35
   refine (WC J2 (bk q 56 #[.int .i64 8, .int .u32 ZA, .int .u32 ZC, .int .u64 ZN, .int .u32 ZP, .int .u32 ZI, .int .u32 ZJ, .slice rA ZE.length rz, .string name, .slice sA ZG.length sz, .slice qA ZH.length qz, .int .u16 base, .int .u32 ref, .int .u8 count, .slice aA ZF.length az, .slice (some ⟨g, o, none⟩) ZB.length wz] :: M) _ (some ⟨w.heap.size, 0, none⟩) 3 [bl, ZM x.src, [byteOf x.seq, byteOf 0, byteOf 0, byteOf 0]] [.slice A n c, .slice A31 (ZM x.src).length c31, .slice A38 ([byteOf x.seq, byteOf 0, byteOf 0, byteOf 0]).length c38] hcs ⟨⟨A, c, by rw [HBL2.out], (HB1.out.mono Z5).mono Zd⟩, ⟨A31, c31, rfl, b31.mono Zd⟩, ⟨A38, c38, rfl, b38.mono Zd⟩, trivial⟩ (by simp) (by have := HLB.out; simp only [List.flatten_cons, List.flatten_nil, List.length_append, List.length_cons, List.length_nil, Zy, Zz]; omega) YN).mono ?_
   rintro e w3 ⟨_, _, _, rfl, _, Zf, rfl, A3, c3, rfl, hc3, rfl⟩
   obtain ⟨fm, hfl⟩ : ∃ z : List UInt8, z = ([bl, ZM x.src, [byteOf x.seq, byteOf 0, byteOf 0, byteOf 0]] : List (List UInt8)).flatten := ⟨_, rfl⟩
   rw [<- hfl] at Zf hc3 ⊢
   have HFLAT := VL hfl
   clear hfl
   try clear ZL
   refine hK.out _ _ (HSS2.out J2 _ (Z5.trans Zd) Zf.drop) (fun ZL => ?_)
   clear hK K
   try go_frame
   refine wh 17 rfl (by kernel_rfl) (fun _ _ _ h => h) rfl ‹_› (by intro w h;go_simp;try with_reducible rfl) ?_
   try go_frame
   refine wpAnyH_done (by kernel_rfl) ?_ _
   have hfe : fm = fl ++ (ZB.take (i + 1)).flatMap XU := by
    rw [HFLAT.out, HSN.out.2, HSN.out.1, <- wn_four q1 q2]
    simp
   have hln : fm.length = n + 8 := by rw [HFLAT.out]; simp [Zy, HBL2.out]
   rw [hfe] at Zf
   rw [<- hfe, hln] at Zf
   rw [hln]
   rw [hfe] at Zf
   have HS4 := VL Zf
   have HLE4 := VL ((HLE.out.trans Z5).trans Zd)
   clear hs YN Zf ZL Z5 Zd hcs Z4 HFLAT hfe hc3 hln
   go_wp2
   go_roundw
   case rel => exact ⟨A3, n + 8, c3, i + 1, rfl, by go_num, by omega, by have := HN.out; omega, VL ⟨_, HLE4.out, HS4.out⟩⟩
   case measure => simp [intOf]; omega
  have hin : i = ZB.length := by omega
  rw [List.take_of_length_le (by omega)] at hs0
  subst hin
  obtain ⟨fm, hfm⟩ : ∃ fm, fm = fl ++ ZB.flatMap XU := ⟨_, rfl⟩
  have hbq : fm = B := by rw [hfm, HFL0.out, HBE.out]; exact body8 HGD.out
  have hn5 : fm.length = n := by have hfl8 := HFL8.out; rw [hfm, List.length_append, YD (s := 8) (fun _ => rfl)]; omega
  rw [<- hfm] at hs0
  clear hfm
  subst hbq
  rw [<- hn5] at hs0 ⊢
  have HS := VL hs0
  have HLE := VL hle0
  clear hs0 hle0 hn5 hn
  generalize J0 = J2 at *
  go_upto_region 36 with fail
  go_loopw [3] (fun bv wr => ∃ (A : Option Addr) (n c : Nat), bv = .slice A n c /\ n <= 4000 /\ Hid (∃ (j : Nat) (J : Zh), n = fm.length + j /\ j <= (4 - fm.length % 4) % 4 /\ I.le J /\ St J (row 5 1 (.slice A n c) n (Z6 (fm ++ List.replicate j 0)) :: bk q 56 #[.int .i64 8, .int .u32 ZA, .int .u32 ZC, .int .u64 ZN, .int .u32 ZP, .int .u32 ZI, .int .u32 ZJ, .slice rA ZE.length rz, .string name, .slice sA ZG.length sz, .slice qA ZH.length qz, .int .u16 base, .int .u32 ref, .int .u8 count, .slice aA ZF.length az, .slice (some ⟨g, o, none⟩) ZB.length wz] :: M) wr)) (fun bv _ => (4 - sliceLen bv % 4) % 4)
  case atStart => exact ⟨_, _, _, rfl, by omega, VL ⟨0, J2, rfl, Nat.zero_le _, HLE.out, by simpa using HS.out⟩⟩
  case round =>
   obtain ⟨A, n, c, rfl, hn, hh⟩ := hrel
   obtain ⟨j, J, hnj, hj, Z5, hs⟩ := hh.out
   clear hh HS HLE
   have hln : (fm ++ List.replicate j 0).length = n := by rw [hnj]; simp
   have HLN := VL hln
   have HRP := VL (X9 j)
   have HNJ := VL hnj
   by_cases Z0 : j < (4 - fm.length % 4) % 4
   ·have hm : ((n : Int) % 4 != 0) = true := by rw [bne_iff_ne]; omega
    obtain ⟨J3, YL, Zf, Z4⟩ := (hs.alloc 5 #[.int .u8 0]).Zg
    have HB1 := VL (show Xy [0] (.slice (some ⟨wr.heap.size, 0, none⟩) 1 1) J3 from ⟨_, 1, rfl, Zq.Yv Z4 rfl⟩)
    obtain ⟨bl, hbe⟩ : ∃ bl, bl = fm ++ List.replicate j 0 := ⟨_, rfl⟩
    rw [<- hbe] at Zf hln
    rw [<- hln] at Zf
    have HBL := VL hbe
    have HS3 := VL Zf
    have HLE := VL (Z5.trans YL)
    have HLT := VL Z0
    have HLL := VL hln
    clear hbe Z5 YL hs Zf Z4 hnj hj hln Z0
    go_wp2_with (at_builtin; refine Yq rfl _ _ rfl J3 _ _ _ _ _ (by rw [HLL.out]; rfl) rfl HS3.out HB1.out (by have := HLL.out; simp only [List.length_cons, List.length_nil]; omega) ?_)
    intro v3 w3 Zv
    obtain ⟨A5, c5, rfl⟩ := ZW (show World.ownsRow _ 0 5 1 v3 _ _ from St.at Zv 0 rfl)
    have hl5 : (bl ++ [0]).length = n + 1 := by rw [List.length_append, HLL.out]; rfl
    have Zo := show St J3 _ w3 from Zv
    rw [hl5] at Zo ⊢
    have HS5 := VL Zo
    clear Zv Zo HS3 HB1 hl5
    go_wp2
    go_roundw
    case rel =>
     refine ⟨A5, n + 1, c5, rfl, by have := HLT.out; have := HNJ.out; omega, VL ⟨j + 1, J3, by have := HNJ.out; omega, by have := HLT.out; omega, HLE.out, ?_⟩⟩
     have := HS5.out
     rw [HBL.out, List.append_assoc, <- HRP.out] at this
     exact this
    case measure =>
     have h1 := HNJ.out
     have h2 := HLT.out
     show (4 - (n + 1) % 4) % 4 < (4 - n % 4) % 4
     omega
   have hm : ((n : Int) % 4 != 0) = false := by rw [bne_eq_false_iff_eq]; omega
   have hjj : j = (4 - fm.length % 4) % 4 := by omega
   rw [hjj, WM] at hs hln
   obtain ⟨E, hE⟩ : ∃ E, E = YH fm := ⟨_, rfl⟩
   rw [<- hE] at hs hln
   have HE := VL hE
   obtain ⟨J3, YL, Zf, hb3⟩ := hs.ZR
   have HS3 := VL Zf
   have HB3 := VL (show Zq J3 A E from hb3)
   have HLE := VL (Z5.trans YL)
   have HLL := VL hln
   clear hs Zf hb3 Z5 YL hE hln hnj hj hjj Z0
   have HV := VL (show [byteOf (132), byteOf 206] ++ Zi ((E.length / 4 : Nat) : Int) ++ E = ZV (⟨8, ZA, ZC, ZN, ZP, ZI, ZJ, ZE, name, ZG, ZH, base, ref, count, ZF, ZB⟩ : Pk) by
    have e1 : 128 + low = 132 := by rw [HLE0.out]; rfl
    rw [<- e1, HLE0.out, HE.out, HBE.out]
    rfl)
   obtain ⟨J4, hle4, Zv, Z4⟩ := (HS3.out.alloc 5 #[.int .u8 (132), .int .u8 206]).Zg
   have HB4 := VL (show Zq J4 (some ⟨wr.heap.size, 0, none⟩) [byteOf (132), byteOf 206] from Zq.Yv Z4 (WS (by omega) (by omega)))
   have HT := VL (twoR J4 _ _ ((n : Int) / 4) Zv)
   have HLE4 := VL hle4
   clear hle4 Zv Z4 HS3
   go_wp2_with fail
   go_at_call 39
   refine HT.out.mono ?_
   clear HT
   rintro e w2 ⟨_, _, _, rfl, _, ZY, rfl, A6, c6, rfl, hc6, rfl⟩
   obtain ⟨J5, hle5, Zo, hb5⟩ := ZY.ZR
   have hb5 : Zq J5 A6 (Zi ((n : Int) / 4 % 65536)) := hb5
   obtain ⟨J6, hle6, hs6, Z4⟩ := (Zo.alloc 24 #[.slice (some ⟨wr.heap.size, 0, none⟩) 2 2, .slice A6 (Zi ((n : Int) / 4 % 65536)).length c6, .slice A n c]).Zg
   have hcs := Cells.Yv Z4
   have HJ := VL (WC J6 (bk q 56 #[.int .i64 8, .int .u32 ZA, .int .u32 ZC, .int .u64 ZN, .int .u32 ZP, .int .u32 ZI, .int .u32 ZJ, .slice rA ZE.length rz, .string name, .slice sA ZG.length sz, .slice qA ZH.length qz, .int .u16 base, .int .u32 ref, .int .u8 count, .slice aA ZF.length az, .slice (some ⟨g, o, none⟩) ZB.length wz] :: M) _ (some ⟨w2.heap.size, 0, none⟩) 3 [[byteOf (132), byteOf 206], Zi ((n : Int) / 4 % 65536), E] [.slice (some ⟨wr.heap.size, 0, none⟩) 2 2, .slice A6 (Zi ((n : Int) / 4 % 65536)).length c6, .slice A n c] hcs ⟨⟨_, 2, rfl, (HB4.out.mono hle5).mono hle6⟩, ⟨A6, c6, rfl, hb5.mono hle6⟩, ⟨A, c, by rw [HLL.out], ((HB3.out.mono HLE4.out).mono hle5).mono hle6⟩, trivial⟩ (by simp) (by have := HLL.out; simp only [List.flatten_cons, List.flatten_nil, List.length_append, List.length_cons, List.length_nil, Zz]; omega) hs6)
   have HL := VL (((HLE.out.trans HLE4.out).trans hle5).trans hle6)
   clear ZY Zo hs6 hb5 hc6 Z4 hcs hle5 hle6 HB3 HB4
   go_wp2_with fail
   go_at_call 35
   refine HJ.out.mono ?_
   clear HJ
   rintro e w4 ⟨_, _, _, rfl, _, hs7, rfl, A7, c7, rfl, hc7, rfl⟩
   have HPE := VL (show ([[byteOf (132), byteOf 206], Zi ((n : Int) / 4 % 65536), E] : List (List UInt8)).flatten = ZV (⟨8, ZA, ZC, ZN, ZP, ZI, ZJ, ZE, name, ZG, ZH, base, ref, count, ZF, ZB⟩ : Pk) by
    rw [<- HV.out, HLL.out]
    have e2 : (n : Int) / 4 % 65536 = ((n / 4 : Nat) : Int) := by omega
    rw [e2]
    simp)
   rw [HPE.out] at hs7 hc7 ⊢
   have HF := VL (show Bui I M (⟨8, ZA, ZC, ZN, ZP, ZI, ZJ, ZE, name, ZG, ZH, base, ref, count, ZF, ZB⟩ : Pk) (.returned _) w4 from YR.mk HL.out (St.ZQ hs7).drop ⟨A7, c7, rfl, rfl⟩)
   clear hs7 hc7 HPE HV
   generalize ZV (⟨8, ZA, ZC, ZN, ZP, ZI, ZJ, ZE, name, ZG, ZH, base, ref, count, ZF, ZB⟩ : Pk) = pbs at *
   go_wp2
   go_returns
   exact HF.out
end Go.Proofs.Ytddopbbmgpnjjaa
