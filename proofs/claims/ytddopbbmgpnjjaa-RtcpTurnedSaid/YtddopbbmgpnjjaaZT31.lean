/- part. -/
import Derived.Test.YtddopbbmgpnjjaaZT29
namespace Go.Proofs.Ytddopbbmgpnjjaa
set_option linter.unusedSimpArgs false
open Go.RowKit
set_option maxRecDepth 100000 in
set_option maxHeartbeats 40000000 in
theorem build3 (I : Zh) (M : List Zt) (w : World) (ZA : Int) (ZC : Int) (ZN : Int) (ZP : Int) (ZI : Int) (ZJ : Int) (base : Int) (ref : Int) (count : Int) (name : ByteArray) (ZE : List Rp) (ZG ZH ZF : List Int) (ZB : List Wn) (rA : Option Addr) (rz : Nat) (sA : Option Addr) (sz : Nat) (qA : Option Addr) (qz : Nat) (aA : Option Addr) (az : Nat) (wA : Option Addr) (wz : Nat) (cr : Cells I rA (flat Yt ZE)) (cs : Cells I sA (flat Xd ZG)) (cq : Cells I qA (flat Yp ZH)) (ca : Cells I aA (flat XC ZF)) (cw : Cells I wA (flat WO ZB)) (hok : Y6 (⟨3, ZA, ZC, ZN, ZP, ZI, ZJ, ZE, name, ZG, ZH, base, ref, count, ZF, ZB⟩ : Pk)) (hg : Good (⟨3, ZA, ZC, ZN, ZP, ZI, ZJ, ZE, name, ZG, ZH, base, ref, count, ZF, ZB⟩ : Pk)) (ZX : St I M w) :
  Calls Try.prog 18 #[.agg #[.int .i64 3, .int .u32 ZA, .int .u32 ZC, .int .u64 ZN, .int .u32 ZP, .int .u32 ZI, .int .u32 ZJ, .slice rA ZE.length rz, .string name, .slice sA ZG.length sz, .slice qA ZH.length qz, .int .u16 base, .int .u32 ref, .int .u8 count, .slice aA ZF.length az, .slice wA ZB.length wz]] w (Bui I M (⟨3, ZA, ZC, ZN, ZP, ZI, ZJ, ZE, name, ZG, ZH, base, ref, count, ZF, ZB⟩ : Pk)) := by
 have ZY := ZX.alloc 56 #[.int .i64 3, .int .u32 ZA, .int .u32 ZC, .int .u64 ZN, .int .u32 ZP, .int .u32 ZI, .int .u32 ZJ, .slice rA ZE.length rz, .string name, .slice sA ZG.length sz, .slice qA ZH.length qz, .int .u16 base, .int .u32 ref, .int .u8 count, .slice aA ZF.length az, .slice wA ZB.length wz]
 have HOK := VL hok
 have HGD := VL hg
 have hbl := Xt hg
 obtain ⟨n1, n2, n3, n4, n5, n6⟩ := Y0 hg
 have HLOW := VL (XB hg)
 simp only [] at n1 n2 n3 n4 n5 n6
 have HCR := VL cr
 have HCS := VL cs
 have HCW := VL cw
 have HCQ := VL cq
 have HCA := VL ca
 clear cr cs cq ca cw hok hg ZX
 obtain ⟨B, hB⟩ : ∃ B, B = Zu (⟨3, ZA, ZC, ZN, ZP, ZI, ZJ, ZE, name, ZG, ZH, base, ref, count, ZF, ZB⟩ : Pk) := ⟨_, rfl⟩
 rw [<- hB] at hbl
 obtain ⟨low, hlow⟩ : ∃ low, low = XV (⟨3, ZA, ZC, ZN, ZP, ZI, ZJ, ZE, name, ZG, ZH, base, ref, count, ZF, ZB⟩ : Pk) := ⟨_, rfl⟩
 obtain ⟨q, hq⟩ : ∃ q, q = w.heap.size := ⟨_, rfl⟩
 rw [<- hq] at ZY
 have HBE := VL hB
 have HLE0 := VL hlow
 clear hB hlow
 go_enter Try.func18, Try.ntmps18
 go_upto_region 1 with fail
 rw [<- hq]
 clear hq
 generalize World.alloc w _ = W at ZY ⊢
 obtain ⟨Zc, hf1, hl1⟩ := ZO.all (ZY.at 0 rfl)
 have HST := VL ZY
 clear ZY
 go_upto_region 19 with fail
 clear Zc hf1 hl1
 have YV := VL (fun (J : Zh) (w' : World) (_ : I.le J) (hs : St J (bk q 56 #[.int .i64 3, .int .u32 ZA, .int .u32 ZC, .int .u64 ZN, .int .u32 ZP, .int .u32 ZI, .int .u32 ZJ, .slice rA ZE.length rz, .string name, .slice sA ZG.length sz, .slice qA ZH.length qz, .int .u16 base, .int .u32 ref, .int .u8 count, .slice aA ZF.length az, .slice wA ZB.length wz] :: M) w') => (show ∀ i, w'.cell? ⟨q, i, none⟩ = (#[.int .i64 3, .int .u32 ZA, .int .u32 ZC, .int .u64 ZN, .int .u32 ZP, .int .u32 ZI, .int .u32 ZJ, .slice rA ZE.length rz, .string name, .slice sA ZG.length sz, .slice qA ZH.length qz, .int .u16 base, .int .u32 ref, .int .u8 count, .slice aA ZF.length az, .slice wA ZB.length wz] : Array Value)[i]? from (ZO.all (hs.at 0 rfl)).1))
 have hn6 : (name.size : Int) <= 64 := by omega
 have hw1 : IntKind.u8.wrap name.size = name.size := wrap_u8 (by omega) (by omega)
 have HLB := VL (show (ls name).length <= 64 by rw [ls_len]; exact n6)
 refine wp_region_held_drew (S := fun w' => ∀ i, w'.cell? ⟨q, i, none⟩ = (#[.int .i64 3, .int .u32 ZA, .int .u32 ZC, .int .u64 ZN, .int .u32 ZP, .int .u32 ZI, .int .u32 ZJ, .slice rA ZE.length rz, .string name, .slice sA ZG.length sz, .slice qA ZH.length qz, .int .u16 base, .int .u32 ref, .int .u8 count, .slice aA ZF.length az, .slice wA ZB.length wz] : Array Value)[i]?) (by kernel_rfl) (YV.out _ _ (.refl _) HST.out.drew) (fun ZL => ?_)
 refine wh 0 rfl (by kernel_rfl) (fun _ _ _ h => h) rfl ‹_› (by intro w h;go_simp;try with_reducible rfl) ?_
 try go_frame
 refine wh 1 rfl (by kernel_rfl) (fun _ _ _ h => h) rfl ‹_› (by intro w h;go_simp;try with_reducible rfl) ?_
 try go_frame
 refine wh 3 rfl (by kernel_rfl) (fun _ _ _ h => h) rfl ‹_› (by intro w h;go_simp;try with_reducible rfl) ?_
 try go_frame
 refine wh 4 rfl (by kernel_rfl) (fun _ _ _ h => h) rfl ‹_› (by intro w h;go_simp;try with_reducible rfl) ?_
 try go_frame
 refine wh 5 rfl (by kernel_rfl) (fun _ _ _ h => h) rfl ‹_› (by intro w h;go_simp;try with_reducible rfl) ?_
 try go_frame
 refine wh 6 rfl (by kernel_rfl) (fun _ _ _ h => h) rfl ‹_› (by intro w h;go_simp;try with_reducible rfl) ?_
 try go_frame
 refine wh 8 rfl (by kernel_rfl) (fun _ _ _ h => h) rfl ‹_› (by intro w h;go_simp;try with_reducible rfl) ?_
 try go_frame
 refine wh 9 rfl (by kernel_rfl) (fun _ _ _ h => h) rfl ‹_› (by intro w h;go_simp;try with_reducible rfl) ?_
 try go_frame
 refine WR (I := I) (M := bk q 56 #[.int .i64 3, .int .u32 ZA, .int .u32 ZC, .int .u64 ZN, .int .u32 ZP, .int .u32 ZI, .int .u32 ZJ, .slice rA ZE.length rz, .string name, .slice sA ZG.length sz, .slice qA ZH.length qz, .int .u16 base, .int .u32 ref, .int .u8 count, .slice aA ZF.length az, .slice wA ZB.length wz] :: M) (l := [(2, 90, ZM ZA), (7, 95, [byteOf 1, byteOf name.size]), (10, 98, ls name), (11, 99, [byteOf 0])]) 3 (by kernel_rfl) (by simp only [List.map_cons, List.map_nil]; decide) (by simp only [List.map_cons, List.map_nil]; decide) YV.out HST.out.drew ?_ ?_
 ·refine List.forall_mem_cons.2 ⟨?_, List.forall_mem_cons.2 ⟨?_, List.forall_mem_cons.2 ⟨?_, List.forall_mem_cons.2 ⟨?_, fun _ h => by cases h⟩⟩⟩⟩
  ·refine YI.call (o := _) rfl rfl rfl rfl (fun _ _ => rfl) ?_ (fun J w Z5 hs => (Yk J _ w (ZA) (HOK.out.ZA) hs).mono (fun _ _ h => h))
   intro xf; simp [Act.over, Zm, Act.eval, hw1]
  ·refine YI.lit (o := _) rfl rfl rfl rfl (fun xf J w Z5 hs => ?_)
   obtain ⟨J9, hle9, hs9, Z4⟩ := (hs.alloc 5 #[.int .u8 1, .int .u8 name.size]).Zg
   refine ⟨.slice (some ⟨w.heap.size, 0, none⟩) 2 2, J9, w.alloc (.cells #[.int .u8 1, .int .u8 name.size] 5), ?_, hle9, hs9, ⟨_, 2, rfl, Zq.Yv Z4 (WS (by omega) (by omega))⟩⟩
   simp only [Act.over, Zm, List.map_cons, List.map_nil, List.foldl_cons, List.foldl_nil, List.setIfInBounds_toArray, List.set_cons_zero, List.set_cons_succ]
   kernel_rfl
  ·refine YI.conv (o := _) rfl rfl rfl rfl (fun _ => rfl) (fun J w Z5 hs => ?_)
   obtain ⟨J9, hle9, hs9, hb9⟩ := hs.bytesOf name (grownCap w name.size 0 5) ((bytesRow name (grownCap w name.size 0 5)).size, (bytesRow name (grownCap w name.size 0 5)).size + 1)
   have hconv := run_bytes_of_string (P := Try.prog) w 9 24 5 name Try.underlying9 Try.underlying24 Try.underlying5
   exact ⟨_, J9, _, hconv, hle9, hs9, ⟨_, _, by rw [ls_len], hb9⟩⟩
  refine YI.lit (o := _) rfl rfl rfl rfl (fun xf J w Z5 hs => ?_)
  obtain ⟨J9, hle9, hs9, Z4⟩ := (hs.alloc 5 #[.int .u8 0]).Zg
  refine ⟨.slice (some ⟨w.heap.size, 0, none⟩) 1 1, J9, w.alloc (.cells #[.int .u8 0] 5), ?_, hle9, hs9, ⟨_, 1, rfl, Zq.Yv Z4 rfl⟩⟩
  simp only [Act.over, Zm, List.map_cons, List.map_nil, List.foldl_cons, List.foldl_nil, List.setIfInBounds_toArray, List.set_cons_zero, List.set_cons_succ]
  kernel_rfl
 intro xf J w Z5 hs hx
 have r0 : Xy (ZM ZA) (xf 90) J := hx (2, 90, ZM ZA) (by simp)
 have r1 : Xy ([byteOf 1, byteOf name.size]) (xf 95) J := hx (7, 95, [byteOf 1, byteOf name.size]) (by simp)
 have r2 : Xy (ls name) (xf 98) J := hx (10, 98, ls name) (by simp)
 have r3 : Xy ([byteOf 0]) (xf 99) J := hx (11, 99, [byteOf 0]) (by simp)
 simp only [List.map_cons, List.map_nil, Act.over, Zm, List.foldl_cons, List.foldl_nil, List.setIfInBounds_toArray, List.set_cons_zero, List.set_cons_succ]
 generalize xf 90 = v90 at *
 obtain ⟨A90, c90, rfl, b90⟩ := r0
 generalize xf 95 = v95 at *
 obtain ⟨A95, c95, rfl, b95⟩ := r1
 generalize xf 98 = v98 at *
 obtain ⟨A98, c98, rfl, b98⟩ := r2
 generalize xf 99 = v99 at *
 obtain ⟨A99, c99, rfl, b99⟩ := r3
 clear hx
 refine wpAnyH_ready (rs := [12]) (by kernel_rfl) (by simp) ?_
 refine AllReadyH.cons (o := _) rfl (fun K hK => ?_) AllReadyH.nil
 go_simp
 try clear ZL
 refine hK.out _ _ (YV.out J _ Z5 (hs.grow _)) (fun ZL => ?_)
 clear hK K
 try go_frame
 obtain ⟨J2, Zd, YN, Z4⟩ := (hs.alloc 24 #[.slice A90 (ZM ZA).length c90, .slice A95 ([byteOf 1, byteOf name.size]).length c95, .slice A98 (ls name).length c98, .slice A99 ([byteOf 0]).length c99]).Zg
 have hcs := Cells.Yv Z4
 refine wpAnyH_ready (rs := [13]) (by kernel_rfl) (by simp) ?_
 refine AllReadyH.cons (o := _) rfl (fun K hK => ?_) AllReadyH.nil
 go_simp
 go_at_call 35
 refine (WC J2 (bk q 56 #[.int .i64 3, .int .u32 ZA, .int .u32 ZC, .int .u64 ZN, .int .u32 ZP, .int .u32 ZI, .int .u32 ZJ, .slice rA ZE.length rz, .string name, .slice sA ZG.length sz, .slice qA ZH.length qz, .int .u16 base, .int .u32 ref, .int .u8 count, .slice aA ZF.length az, .slice wA ZB.length wz] :: M) _ (some ⟨w.heap.size, 0, none⟩) 4 [ZM ZA, [byteOf 1, byteOf name.size], ls name, [byteOf 0]] [.slice A90 (ZM ZA).length c90, .slice A95 ([byteOf 1, byteOf name.size]).length c95, .slice A98 (ls name).length c98, .slice A99 ([byteOf 0]).length c99] hcs ⟨⟨A90, c90, rfl, b90.mono Zd⟩, ⟨A95, c95, rfl, b95.mono Zd⟩, ⟨A98, c98, rfl, b98.mono Zd⟩, ⟨A99, c99, rfl, b99.mono Zd⟩, trivial⟩ (by simp) (by have := HLB.out; simp only [List.flatten_cons, List.flatten_nil, List.length_append, List.length_cons, List.length_nil, Zy, Zz]; omega) YN).mono ?_
 rintro e w3 ⟨_, _, _, rfl, _, Zf, rfl, A3, c3, rfl, hc3, rfl⟩
 obtain ⟨fl, hfl⟩ : ∃ z : List UInt8, z = ([ZM ZA, [byteOf 1, byteOf name.size], ls name, [byteOf 0]] : List (List UInt8)).flatten := ⟨_, rfl⟩
 rw [<- hfl] at Zf hc3 ⊢
 have HFLAT := VL hfl
 clear hfl
 try clear ZL
 refine hK.out _ _ (YV.out J2 _ (Z5.trans Zd) Zf.drop) (fun ZL => ?_)
 clear hK K
 try go_frame
 refine wh 14 rfl (by kernel_rfl) (fun _ _ _ h => h) rfl ‹_› (by intro w h;go_simp;try with_reducible rfl) ?_
 try go_frame
 refine wpAnyH_done (by kernel_rfl) ?_ _
 have hbq : fl = B := by rw [HFLAT.out, HBE.out]; exact body3 HGD.out
 subst hbq
 have HS := VL Zf
 have HLE := VL (Z5.trans Zd)
 clear hs YN Zf ZL Z5 Zd hcs Z4 HFLAT
 generalize A3 = A4 at *
 go_upto_region 36 with fail
 go_loopw [3] (fun bv wr => ∃ (A : Option Addr) (n c : Nat), bv = .slice A n c /\ n <= 4000 /\ Hid (∃ (j : Nat) (J : Zh), n = fl.length + j /\ j <= (4 - fl.length % 4) % 4 /\ I.le J /\ St J (row 5 1 (.slice A n c) n (Z6 (fl ++ List.replicate j 0)) :: bk q 56 #[.int .i64 3, .int .u32 ZA, .int .u32 ZC, .int .u64 ZN, .int .u32 ZP, .int .u32 ZI, .int .u32 ZJ, .slice rA ZE.length rz, .string name, .slice sA ZG.length sz, .slice qA ZH.length qz, .int .u16 base, .int .u32 ref, .int .u8 count, .slice aA ZF.length az, .slice wA ZB.length wz] :: M) wr)) (fun bv _ => (4 - sliceLen bv % 4) % 4)
 case atStart => exact ⟨_, _, _, rfl, by omega, VL ⟨0, J2, rfl, Nat.zero_le _, HLE.out, by simpa using HS.out⟩⟩
 case round =>
  obtain ⟨A, n, c, rfl, hn, hh⟩ := hrel
  obtain ⟨j, J, hnj, hj, Z5, hs⟩ := hh.out
  clear hh HS HLE
  have hln : (fl ++ List.replicate j 0).length = n := by rw [hnj]; simp
  have HLN := VL hln
  have HRP := VL (X9 j)
  have HNJ := VL hnj
  by_cases Z0 : j < (4 - fl.length % 4) % 4
  ·have hm : ((n : Int) % 4 != 0) = true := by rw [bne_iff_ne]; omega
   obtain ⟨J3, YL, Zf, Z4⟩ := (hs.alloc 5 #[.int .u8 0]).Zg
   have HB1 := VL (show Xy [0] (.slice (some ⟨wr.heap.size, 0, none⟩) 1 1) J3 from ⟨_, 1, rfl, Zq.Yv Z4 rfl⟩)
   obtain ⟨bl, hbe⟩ : ∃ bl, bl = fl ++ List.replicate j 0 := ⟨_, rfl⟩
   rw [<- hbe] at Zf hln
   rw [<- hln] at Zf
   have HBL := VL hbe
   have HS3 := VL Zf
   have HLE := VL (Z5.trans YL)
   have HLT := VL Z0
   have HLL := VL hln
   clear hbe Z5 YL hs Zf Z4 hnj hj hln Z0
   go_wp2_with (at_builtin; refine Yq rfl _ _ rfl J3 _ _ _ _ _ (by rw [HLL.out]; rfl) rfl HS3.out HB1.out (by have := HLL.out; simp only [List.length_cons, List.length_nil]; omega) ?_)
   intro v3 w3 Zv
   obtain ⟨A5, c5, rfl⟩ := ZW (show World.ownsRow _ 0 5 1 v3 _ _ from St.at Zv 0 rfl)
   have hl5 : (bl ++ [0]).length = n + 1 := by rw [List.length_append, HLL.out]; rfl
   have Zo := show St J3 _ w3 from Zv
   rw [hl5] at Zo ⊢
   have HS5 := VL Zo
   clear Zv Zo HS3 HB1 hl5
   go_wp2
   go_roundw
   case rel =>
    refine ⟨A5, n + 1, c5, rfl, by have := HLT.out; have := HNJ.out; omega, VL ⟨j + 1, J3, by have := HNJ.out; omega, by have := HLT.out; omega, HLE.out, ?_⟩⟩
    have := HS5.out
    rw [HBL.out, List.append_assoc, <- HRP.out] at this
    exact this
   case measure =>
    have h1 := HNJ.out
    have h2 := HLT.out
    show (4 - (n + 1) % 4) % 4 < (4 - n % 4) % 4
    omega
  have hm : ((n : Int) % 4 != 0) = false := by rw [bne_eq_false_iff_eq]; omega
  have hjj : j = (4 - fl.length % 4) % 4 := by omega
  rw [hjj, WM] at hs hln
  obtain ⟨E, hE⟩ : ∃ E, E = YH fl := ⟨_, rfl⟩
  rw [<- hE] at hs hln
  have HE := VL hE
  obtain ⟨J3, YL, Zf, hb3⟩ := hs.ZR
  have HS3 := VL Zf
  have HB3 := VL (show Zq J3 A E from hb3)
  have HLE := VL (Z5.trans YL)
  have HLL := VL hln
  clear hs Zf hb3 Z5 YL hE hln hnj hj hjj Z0
  have HV := VL (show [byteOf (129), byteOf 202] ++ Zi ((E.length / 4 : Nat) : Int) ++ E = ZV (⟨3, ZA, ZC, ZN, ZP, ZI, ZJ, ZE, name, ZG, ZH, base, ref, count, ZF, ZB⟩ : Pk) by
   have e1 : 128 + low = 129 := by rw [HLE0.out]; rfl
   rw [<- e1, HLE0.out, HE.out, HBE.out]
   rfl)
  obtain ⟨J4, hle4, Zv, Z4⟩ := (HS3.out.alloc 5 #[.int .u8 (129), .int .u8 202]).Zg
  have HB4 := VL (show Zq J4 (some ⟨wr.heap.size, 0, none⟩) [byteOf (129), byteOf 202] from Zq.Yv Z4 (WS (by omega) (by omega)))
  have HT := VL (twoR J4 _ _ ((n : Int) / 4) Zv)
  have HLE4 := VL hle4
  clear hle4 Zv Z4 HS3
  go_wp2_with fail
  go_at_call 39
  refine HT.out.mono ?_
  clear HT
  rintro e w2 ⟨_, _, _, rfl, _, ZY, rfl, A6, c6, rfl, hc6, rfl⟩
  obtain ⟨J5, hle5, Zo, hb5⟩ := ZY.ZR
  have hb5 : Zq J5 A6 (Zi ((n : Int) / 4 % 65536)) := hb5
  obtain ⟨J6, hle6, hs6, Z4⟩ := (Zo.alloc 24 #[.slice (some ⟨wr.heap.size, 0, none⟩) 2 2, .slice A6 (Zi ((n : Int) / 4 % 65536)).length c6, .slice A n c]).Zg
  have hcs := Cells.Yv Z4
  have HJ := VL (WC J6 (bk q 56 #[.int .i64 3, .int .u32 ZA, .int .u32 ZC, .int .u64 ZN, .int .u32 ZP, .int .u32 ZI, .int .u32 ZJ, .slice rA ZE.length rz, .string name, .slice sA ZG.length sz, .slice qA ZH.length qz, .int .u16 base, .int .u32 ref, .int .u8 count, .slice aA ZF.length az, .slice wA ZB.length wz] :: M) _ (some ⟨w2.heap.size, 0, none⟩) 3 [[byteOf (129), byteOf 202], Zi ((n : Int) / 4 % 65536), E] [.slice (some ⟨wr.heap.size, 0, none⟩) 2 2, .slice A6 (Zi ((n : Int) / 4 % 65536)).length c6, .slice A n c] hcs ⟨⟨_, 2, rfl, (HB4.out.mono hle5).mono hle6⟩, ⟨A6, c6, rfl, hb5.mono hle6⟩, ⟨A, c, by rw [HLL.out], ((HB3.out.mono HLE4.out).mono hle5).mono hle6⟩, trivial⟩ (by simp) (by have := HLL.out; simp only [List.flatten_cons, List.flatten_nil, List.length_append, List.length_cons, List.length_nil, Zz]; omega) hs6)
  have HL := VL (((HLE.out.trans HLE4.out).trans hle5).trans hle6)
  clear ZY Zo hs6 hb5 hc6 Z4 hcs hle5 hle6 HB3 HB4
  go_wp2_with fail
  go_at_call 35
  refine HJ.out.mono ?_
  clear HJ
  rintro e w4 ⟨_, _, _, rfl, _, hs7, rfl, A7, c7, rfl, hc7, rfl⟩
  have HPE := VL (show ([[byteOf (129), byteOf 202], Zi ((n : Int) / 4 % 65536), E] : List (List UInt8)).flatten = ZV (⟨3, ZA, ZC, ZN, ZP, ZI, ZJ, ZE, name, ZG, ZH, base, ref, count, ZF, ZB⟩ : Pk) by
   rw [<- HV.out, HLL.out]
   have e2 : (n : Int) / 4 % 65536 = ((n / 4 : Nat) : Int) := by omega
   rw [e2]
   simp)
  rw [HPE.out] at hs7 hc7 ⊢
  have HF := VL (show Bui I M (⟨3, ZA, ZC, ZN, ZP, ZI, ZJ, ZE, name, ZG, ZH, base, ref, count, ZF, ZB⟩ : Pk) (.returned _) w4 from YR.mk HL.out (St.ZQ hs7).drop ⟨A7, c7, rfl, rfl⟩)
  clear hs7 hc7 HPE HV
  generalize ZV (⟨3, ZA, ZC, ZN, ZP, ZI, ZJ, ZE, name, ZG, ZH, base, ref, count, ZF, ZB⟩ : Pk) = pbs at *
  go_wp2
  go_returns
  exact HF.out
set_option maxRecDepth 100000 in
set_option maxHeartbeats 40000000 in
theorem build4 (I : Zh) (M : List Zt) (w : World) (ZA : Int) (ZC : Int) (ZN : Int) (ZP : Int) (ZI : Int) (ZJ : Int) (base : Int) (ref : Int) (count : Int) (name : ByteArray) (ZE : List Rp) (ZG ZH ZF : List Int) (ZB : List Wn) (rA : Option Addr) (rz : Nat) (sA : Option Addr) (sz : Nat) (qA : Option Addr) (qz : Nat) (aA : Option Addr) (az : Nat) (wA : Option Addr) (wz : Nat) (cr : Cells I rA (flat Yt ZE)) (cs : Cells I sA (flat Xd ZG)) (cq : Cells I qA (flat Yp ZH)) (ca : Cells I aA (flat XC ZF)) (cw : Cells I wA (flat WO ZB)) (hok : Y6 (⟨4, ZA, ZC, ZN, ZP, ZI, ZJ, ZE, name, ZG, ZH, base, ref, count, ZF, ZB⟩ : Pk)) (hg : Good (⟨4, ZA, ZC, ZN, ZP, ZI, ZJ, ZE, name, ZG, ZH, base, ref, count, ZF, ZB⟩ : Pk)) (ZX : St I M w) :
  Calls Try.prog 18 #[.agg #[.int .i64 4, .int .u32 ZA, .int .u32 ZC, .int .u64 ZN, .int .u32 ZP, .int .u32 ZI, .int .u32 ZJ, .slice rA ZE.length rz, .string name, .slice sA ZG.length sz, .slice qA ZH.length qz, .int .u16 base, .int .u32 ref, .int .u8 count, .slice aA ZF.length az, .slice wA ZB.length wz]] w (Bui I M (⟨4, ZA, ZC, ZN, ZP, ZI, ZJ, ZE, name, ZG, ZH, base, ref, count, ZF, ZB⟩ : Pk)) := by
 have ZY := ZX.alloc 56 #[.int .i64 4, .int .u32 ZA, .int .u32 ZC, .int .u64 ZN, .int .u32 ZP, .int .u32 ZI, .int .u32 ZJ, .slice rA ZE.length rz, .string name, .slice sA ZG.length sz, .slice qA ZH.length qz, .int .u16 base, .int .u32 ref, .int .u8 count, .slice aA ZF.length az, .slice wA ZB.length wz]
 have HOK := VL hok
 have HGD := VL hg
 have hbl := Xt hg
 obtain ⟨n1, n2, n3, n4, n5, n6⟩ := Y0 hg
 have HLOW := VL (XB hg)
 simp only [] at n1 n2 n3 n4 n5 n6
 have HCR := VL cr
 have HCS := VL cs
 have HCW := VL cw
 have HCQ := VL cq
 have HCA := VL ca
 clear cr cs cq ca cw hok hg ZX
 obtain ⟨B, hB⟩ : ∃ B, B = Zu (⟨4, ZA, ZC, ZN, ZP, ZI, ZJ, ZE, name, ZG, ZH, base, ref, count, ZF, ZB⟩ : Pk) := ⟨_, rfl⟩
 rw [<- hB] at hbl
 obtain ⟨low, hlow⟩ : ∃ low, low = XV (⟨4, ZA, ZC, ZN, ZP, ZI, ZJ, ZE, name, ZG, ZH, base, ref, count, ZF, ZB⟩ : Pk) := ⟨_, rfl⟩
 obtain ⟨q, hq⟩ : ∃ q, q = w.heap.size := ⟨_, rfl⟩
 rw [<- hq] at ZY
 have HBE := VL hB
 have HLE0 := VL hlow
 clear hB hlow
 go_enter Try.func18, Try.ntmps18
 go_upto_region 1 with fail
 rw [<- hq]
 clear hq
 generalize World.alloc w _ = W at ZY ⊢
 obtain ⟨Zc, hf1, hl1⟩ := ZO.all (ZY.at 0 rfl)
 have HST := VL ZY
 clear ZY
 obtain ⟨hcq, hfq, hlq⟩ := ZO.all (HST.out.at 0 rfl)
 go_upto_region 23 with fail
 clear hcq hfq hlq Zc hf1 hl1
 have HS := VL (HST.out.nil (e := 5) (size := 1))
 go_loopw [3, 110] (fun bv iv wr => ∃ (A : Option Addr) (n c i : Nat), bv = .slice A n c /\ iv = .int .i64 i /\ i <= ZG.length /\ n = 4 * i /\ Hid (∃ (J : Zh), I.le J /\ St J (row 5 1 (.slice A n c) n (Z6 ((ZG.take i).flatMap ZM)) :: bk q 56 #[.int .i64 4, .int .u32 ZA, .int .u32 ZC, .int .u64 ZN, .int .u32 ZP, .int .u32 ZI, .int .u32 ZJ, .slice rA ZE.length rz, .string name, .slice sA ZG.length sz, .slice qA ZH.length qz, .int .u16 base, .int .u32 ref, .int .u8 count, .slice aA ZF.length az, .slice wA ZB.length wz] :: M) wr)) (fun _ iv _ => ZG.length - (intOf iv).toNat)
 case atStart => exact ⟨none, 0, 0, 0, rfl, rfl, by omega, rfl, VL ⟨I, .refl I, HS.out⟩⟩
 case round =>
  obtain ⟨A, n, c, i, rfl, rfl, hi, hn, hh⟩ := hrel
  obtain ⟨J, Z5, hs⟩ := hh.out
  clear hh HS
  by_cases Z0 : i < ZG.length
  ·obtain ⟨g, o, rfl, ZK⟩ := flat_get (s := 1) (fun _ => rfl) (HCS.out.mono Z5) (by omega) (by decide)
   have y0 : wr.cell? ⟨g, o + i, none⟩ = some (.int .u32 ZG[i]) := by
    have := ZK _ _ hs i Z0 0 (by decide)
    simpa using this
   have hm := HOK.out.ZG _ (List.getElem_mem Z0)
   have hsn := Yr ZM ZG i Z0
   obtain ⟨hcq, hfq, hlq⟩ := ZO.all (hs.at 1 rfl)
   generalize ZG[i] = x at y0 hm hsn
   obtain ⟨bl, hbe⟩ : ∃ bl, bl = (ZG.take i).flatMap ZM := ⟨_, rfl⟩
   have hbl2 : bl.length = n := by rw [hbe, YD (s := 4) (fun _ => rfl), List.length_take]; omega
   rw [<- hbe] at hs hsn
   rw [<- hbl2] at hs
   have HSN := VL hsn
   have HS := VL hs
   have HLE := VL Z5
   have HLL := VL hbl2
   have HN := VL hn
   have HM := VL hm
   clear hbe Z5 hs hsn ZK hbl2 hn hm
   go_wp2_with fail
   go_at_call 36
   refine (fourR J _ _ x HM.out HS.out).mono ?_
   clear HS hcq hfq hlq y0
   rintro e w2 ⟨_, _, _, rfl, _, ZY, rfl, A1, c1, rfl, Zc, rfl⟩
   obtain ⟨J1, hle1, YN, hb1⟩ := ZY.ZR
   have HS2 := VL YN
   have HB := VL (show Xy (ZM x) (.slice A1 (ZM x).length c1) J1 from ⟨A1, c1, rfl, hb1⟩)
   have HLE2 := VL (HLE.out.trans hle1)
   clear ZY YN hb1 hle1 Zc
   go_wp2_with (at_builtin; refine Yq rfl _ _ rfl J1 _ _ _ _ _ (by rw [HLL.out]; rfl) rfl HS2.out HB.out (by have := HLL.out; have := HN.out; rw [Zy]; omega) ?_)
   intro v3 w3 Zv
   obtain ⟨A5, c5, rfl⟩ := ZW (show World.ownsRow _ 0 5 1 v3 _ _ from St.at Zv 0 rfl)
   have hl5 : (bl ++ ZM x).length = n + 4 := by rw [List.length_append, HLL.out, Zy]
   have Zo := show St J1 _ w3 from Zv
   rw [hl5] at Zo ⊢
   rw [<- HSN.out] at Zo
   have HS5 := VL Zo
   clear Zv Zo HS2 HB hl5
   go_wp2
   go_roundw
   case rel => exact ⟨A5, n + 4, c5, i + 1, rfl, by go_num, by omega, by have := HN.out; omega, VL ⟨J1, HLE2.out, HS5.out⟩⟩
   case measure => simp [intOf]; omega
  have hin : i = ZG.length := by omega
  rw [List.take_of_length_le (by omega)] at hs
  subst hin
  obtain ⟨fl, hfl⟩ : ∃ fl, fl = ZG.flatMap ZM := ⟨_, rfl⟩
  have hbq : fl = B := by rw [hfl, HBE.out]; exact body4 HGD.out
  have hn5 : fl.length = n := by rw [hfl, YD (s := 4) (fun _ => rfl)]; omega
  rw [<- hfl] at hs
  subst hbq
  rw [<- hn5] at hs ⊢
  have HS := VL hs
  have HLE := VL Z5
  have HFI := VL hn5
  clear hs Z5 hfl hn5 hn
  generalize J = J2 at *
  go_upto_region 36 with fail
  go_loopw [3] (fun bv wr => ∃ (A : Option Addr) (n c : Nat), bv = .slice A n c /\ n <= 4000 /\ Hid (∃ (j : Nat) (J : Zh), n = fl.length + j /\ j <= (4 - fl.length % 4) % 4 /\ I.le J /\ St J (row 5 1 (.slice A n c) n (Z6 (fl ++ List.replicate j 0)) :: bk q 56 #[.int .i64 4, .int .u32 ZA, .int .u32 ZC, .int .u64 ZN, .int .u32 ZP, .int .u32 ZI, .int .u32 ZJ, .slice rA ZE.length rz, .string name, .slice sA ZG.length sz, .slice qA ZH.length qz, .int .u16 base, .int .u32 ref, .int .u8 count, .slice aA ZF.length az, .slice wA ZB.length wz] :: M) wr)) (fun bv _ => (4 - sliceLen bv % 4) % 4)
  case atStart => exact ⟨_, _, _, rfl, by omega, VL ⟨0, J2, rfl, Nat.zero_le _, HLE.out, by simpa using HS.out⟩⟩
  case round =>
   obtain ⟨A, n, c, rfl, hn, hh⟩ := hrel
   obtain ⟨j, J, hnj, hj, Z5, hs⟩ := hh.out
   clear hh HS HLE
   have hln : (fl ++ List.replicate j 0).length = n := by rw [hnj]; simp
   have HLN := VL hln
   have HRP := VL (X9 j)
   have HNJ := VL hnj
   by_cases Z0 : j < (4 - fl.length % 4) % 4
   ·have hm : ((n : Int) % 4 != 0) = true := by rw [bne_iff_ne]; omega
    obtain ⟨J3, YL, Zf, Z4⟩ := (hs.alloc 5 #[.int .u8 0]).Zg
    have HB1 := VL (show Xy [0] (.slice (some ⟨wr.heap.size, 0, none⟩) 1 1) J3 from ⟨_, 1, rfl, Zq.Yv Z4 rfl⟩)
    obtain ⟨bl, hbe⟩ : ∃ bl, bl = fl ++ List.replicate j 0 := ⟨_, rfl⟩
    rw [<- hbe] at Zf hln
    rw [<- hln] at Zf
    have HBL := VL hbe
    have HS3 := VL Zf
    have HLE := VL (Z5.trans YL)
    have HLT := VL Z0
    have HLL := VL hln
    clear hbe Z5 YL hs Zf Z4 hnj hj hln Z0
    go_wp2_with (at_builtin; refine Yq rfl _ _ rfl J3 _ _ _ _ _ (by rw [HLL.out]; rfl) rfl HS3.out HB1.out (by have := HLL.out; simp only [List.length_cons, List.length_nil]; omega) ?_)
    intro v3 w3 Zv
    obtain ⟨A5, c5, rfl⟩ := ZW (show World.ownsRow _ 0 5 1 v3 _ _ from St.at Zv 0 rfl)
    have hl5 : (bl ++ [0]).length = n + 1 := by rw [List.length_append, HLL.out]; rfl
    have Zo := show St J3 _ w3 from Zv
    rw [hl5] at Zo ⊢
    have HS5 := VL Zo
    clear Zv Zo HS3 HB1 hl5
    go_wp2
    go_roundw
    case rel =>
     refine ⟨A5, n + 1, c5, rfl, by have := HLT.out; have := HNJ.out; omega, VL ⟨j + 1, J3, by have := HNJ.out; omega, by have := HLT.out; omega, HLE.out, ?_⟩⟩
     have := HS5.out
     rw [HBL.out, List.append_assoc, <- HRP.out] at this
     exact this
    case measure =>
     have h1 := HNJ.out
     have h2 := HLT.out
     show (4 - (n + 1) % 4) % 4 < (4 - n % 4) % 4
     omega
   have hm : ((n : Int) % 4 != 0) = false := by rw [bne_eq_false_iff_eq]; omega
   have hjj : j = (4 - fl.length % 4) % 4 := by omega
   rw [hjj, WM] at hs hln
   obtain ⟨E, hE⟩ : ∃ E, E = YH fl := ⟨_, rfl⟩
   rw [<- hE] at hs hln
   have HE := VL hE
   obtain ⟨J3, YL, Zf, hb3⟩ := hs.ZR
   have HS3 := VL Zf
   have HB3 := VL (show Zq J3 A E from hb3)
   have HLE := VL (Z5.trans YL)
   have HLL := VL hln
   clear hs Zf hb3 Z5 YL hE hln hnj hj hjj Z0
   have hq1 : (ZG.length : Int) <= 31 := by omega
   have HV := VL (show [byteOf (128 + (ZG.length : Int)), byteOf 203] ++ Zi ((E.length / 4 : Nat) : Int) ++ E = ZV (⟨4, ZA, ZC, ZN, ZP, ZI, ZJ, ZE, name, ZG, ZH, base, ref, count, ZF, ZB⟩ : Pk) by
    have e1 : 128 + low = 128 + (ZG.length : Int) := by rw [HLE0.out]; rw [low4 HGD.out]
    rw [<- e1, HLE0.out, HE.out, HBE.out]
    rfl)
   obtain ⟨J4, hle4, Zv, Z4⟩ := (HS3.out.alloc 5 #[.int .u8 (128 + (ZG.length : Int)), .int .u8 203]).Zg
   have HB4 := VL (show Zq J4 (some ⟨wr.heap.size, 0, none⟩) [byteOf (128 + (ZG.length : Int)), byteOf 203] from Zq.Yv Z4 (WS (by omega) (by omega)))
   have HT := VL (twoR J4 _ _ ((n : Int) / 4) Zv)
   have HLE4 := VL hle4
   clear hle4 Zv Z4 HS3
   go_wp2_with fail
   go_at_call 39
   refine HT.out.mono ?_
   clear HT
   rintro e w2 ⟨_, _, _, rfl, _, ZY, rfl, A6, c6, rfl, hc6, rfl⟩
   obtain ⟨J5, hle5, Zo, hb5⟩ := ZY.ZR
   have hb5 : Zq J5 A6 (Zi ((n : Int) / 4 % 65536)) := hb5
   obtain ⟨J6, hle6, hs6, Z4⟩ := (Zo.alloc 24 #[.slice (some ⟨wr.heap.size, 0, none⟩) 2 2, .slice A6 (Zi ((n : Int) / 4 % 65536)).length c6, .slice A n c]).Zg
   have hcs := Cells.Yv Z4
   have HJ := VL (WC J6 (bk q 56 #[.int .i64 4, .int .u32 ZA, .int .u32 ZC, .int .u64 ZN, .int .u32 ZP, .int .u32 ZI, .int .u32 ZJ, .slice rA ZE.length rz, .string name, .slice sA ZG.length sz, .slice qA ZH.length qz, .int .u16 base, .int .u32 ref, .int .u8 count, .slice aA ZF.length az, .slice wA ZB.length wz] :: M) _ (some ⟨w2.heap.size, 0, none⟩) 3 [[byteOf (128 + (ZG.length : Int)), byteOf 203], Zi ((n : Int) / 4 % 65536), E] [.slice (some ⟨wr.heap.size, 0, none⟩) 2 2, .slice A6 (Zi ((n : Int) / 4 % 65536)).length c6, .slice A n c] hcs ⟨⟨_, 2, rfl, (HB4.out.mono hle5).mono hle6⟩, ⟨A6, c6, rfl, hb5.mono hle6⟩, ⟨A, c, by rw [HLL.out], ((HB3.out.mono HLE4.out).mono hle5).mono hle6⟩, trivial⟩ (by simp) (by have := HLL.out; simp only [List.flatten_cons, List.flatten_nil, List.length_append, List.length_cons, List.length_nil, Zz]; omega) hs6)
   have HL := VL (((HLE.out.trans HLE4.out).trans hle5).trans hle6)
   clear ZY Zo hs6 hb5 hc6 Z4 hcs hle5 hle6 HB3 HB4
   go_wp2_with fail
   go_at_call 35
   refine HJ.out.mono ?_
   clear HJ
   rintro e w4 ⟨_, _, _, rfl, _, hs7, rfl, A7, c7, rfl, hc7, rfl⟩
   have HPE := VL (show ([[byteOf (128 + (ZG.length : Int)), byteOf 203], Zi ((n : Int) / 4 % 65536), E] : List (List UInt8)).flatten = ZV (⟨4, ZA, ZC, ZN, ZP, ZI, ZJ, ZE, name, ZG, ZH, base, ref, count, ZF, ZB⟩ : Pk) by
    rw [<- HV.out, HLL.out]
    have e2 : (n : Int) / 4 % 65536 = ((n / 4 : Nat) : Int) := by omega
    rw [e2]
    simp)
   rw [HPE.out] at hs7 hc7 ⊢
   have HF := VL (show Bui I M (⟨4, ZA, ZC, ZN, ZP, ZI, ZJ, ZE, name, ZG, ZH, base, ref, count, ZF, ZB⟩ : Pk) (.returned _) w4 from YR.mk HL.out (St.ZQ hs7).drop ⟨A7, c7, rfl, rfl⟩)
   clear hs7 hc7 HPE HV
   generalize ZV (⟨4, ZA, ZC, ZN, ZP, ZI, ZJ, ZE, name, ZG, ZH, base, ref, count, ZF, ZB⟩ : Pk) = pbs at *
   go_wp2
   go_returns
   exact HF.out
end Go.Proofs.Ytddopbbmgpnjjaa
