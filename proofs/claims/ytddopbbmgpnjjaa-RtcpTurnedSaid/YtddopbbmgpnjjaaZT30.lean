/- part. -/
import Derived.Test.YtddopbbmgpnjjaaZT29
namespace Go.Proofs.Ytddopbbmgpnjjaa
set_option linter.unusedSimpArgs false
open Go.RowKit
set_option maxRecDepth 100000 in
set_option maxHeartbeats 40000000 in
theorem build1 (I : Zh) (M : List Zt) (w : World) (ZA : Int) (ZC : Int) (ZN : Int) (ZP : Int) (ZI : Int) (ZJ : Int) (base : Int) (ref : Int) (count : Int) (name : ByteArray) (ZE : List Rp) (ZG ZH ZF : List Int) (ZB : List Wn) (rA : Option Addr) (rz : Nat) (sA : Option Addr) (sz : Nat) (qA : Option Addr) (qz : Nat) (aA : Option Addr) (az : Nat) (wA : Option Addr) (wz : Nat) (cr : Cells I rA (flat Yt ZE)) (cs : Cells I sA (flat Xd ZG)) (cq : Cells I qA (flat Yp ZH)) (ca : Cells I aA (flat XC ZF)) (cw : Cells I wA (flat WO ZB)) (hok : Y6 (⟨1, ZA, ZC, ZN, ZP, ZI, ZJ, ZE, name, ZG, ZH, base, ref, count, ZF, ZB⟩ : Pk)) (hg : Good (⟨1, ZA, ZC, ZN, ZP, ZI, ZJ, ZE, name, ZG, ZH, base, ref, count, ZF, ZB⟩ : Pk)) (ZX : St I M w) :
  Calls Try.prog 18 #[.agg #[.int .i64 1, .int .u32 ZA, .int .u32 ZC, .int .u64 ZN, .int .u32 ZP, .int .u32 ZI, .int .u32 ZJ, .slice rA ZE.length rz, .string name, .slice sA ZG.length sz, .slice qA ZH.length qz, .int .u16 base, .int .u32 ref, .int .u8 count, .slice aA ZF.length az, .slice wA ZB.length wz]] w (Bui I M (⟨1, ZA, ZC, ZN, ZP, ZI, ZJ, ZE, name, ZG, ZH, base, ref, count, ZF, ZB⟩ : Pk)) := by
 have ZY := ZX.alloc 56 #[.int .i64 1, .int .u32 ZA, .int .u32 ZC, .int .u64 ZN, .int .u32 ZP, .int .u32 ZI, .int .u32 ZJ, .slice rA ZE.length rz, .string name, .slice sA ZG.length sz, .slice qA ZH.length qz, .int .u16 base, .int .u32 ref, .int .u8 count, .slice aA ZF.length az, .slice wA ZB.length wz]
 have HOK := VL hok
 have HGD := VL hg
 have hbl := Xt hg
 obtain ⟨n1, n2, n3, n4, n5, n6⟩ := Y0 hg
 have HLOW := VL (XB hg)
 simp only [] at n1 n2 n3 n4 n5 n6
 have HCR := VL cr
 have HCS := VL cs
 have HCW := VL cw
 have HCQ := VL cq
 have HCA := VL ca
 clear cr cs cq ca cw hok hg ZX
 obtain ⟨B, hB⟩ : ∃ B, B = Zu (⟨1, ZA, ZC, ZN, ZP, ZI, ZJ, ZE, name, ZG, ZH, base, ref, count, ZF, ZB⟩ : Pk) := ⟨_, rfl⟩
 rw [<- hB] at hbl
 obtain ⟨low, hlow⟩ : ∃ low, low = XV (⟨1, ZA, ZC, ZN, ZP, ZI, ZJ, ZE, name, ZG, ZH, base, ref, count, ZF, ZB⟩ : Pk) := ⟨_, rfl⟩
 obtain ⟨q, hq⟩ : ∃ q, q = w.heap.size := ⟨_, rfl⟩
 rw [<- hq] at ZY
 have HBE := VL hB
 have HLE0 := VL hlow
 clear hB hlow
 go_enter Try.func18, Try.ntmps18
 go_upto_region 1 with fail
 rw [<- hq]
 clear hq
 generalize World.alloc w _ = W at ZY ⊢
 obtain ⟨Zc, hf1, hl1⟩ := ZO.all (ZY.at 0 rfl)
 have HST := VL ZY
 clear ZY
 go_upto_region 13 with fail
 clear Zc hf1 hl1
 have YV := VL (fun (J : Zh) (w' : World) (_ : I.le J) (hs : St J (bk q 56 #[.int .i64 1, .int .u32 ZA, .int .u32 ZC, .int .u64 ZN, .int .u32 ZP, .int .u32 ZI, .int .u32 ZJ, .slice rA ZE.length rz, .string name, .slice sA ZG.length sz, .slice qA ZH.length qz, .int .u16 base, .int .u32 ref, .int .u8 count, .slice aA ZF.length az, .slice wA ZB.length wz] :: M) w') => (show ∀ i, w'.cell? ⟨q, i, none⟩ = (#[.int .i64 1, .int .u32 ZA, .int .u32 ZC, .int .u64 ZN, .int .u32 ZP, .int .u32 ZI, .int .u32 ZJ, .slice rA ZE.length rz, .string name, .slice sA ZG.length sz, .slice qA ZH.length qz, .int .u16 base, .int .u32 ref, .int .u8 count, .slice aA ZF.length az, .slice wA ZB.length wz] : Array Value)[i]? from (ZO.all (hs.at 0 rfl)).1))
 have ho1 := HOK.out.ZN
 simp only [] at ho1
 obtain ⟨p1, p2⟩ := ho1
 have hw1 : IntKind.u32.wrap (ZN / 4294967296) = ZN / 4294967296 := wrap_u32 (by omega) (by omega)
 have hw2 : IntKind.u32.wrap ZN = ZN % 4294967296 := by simp only [IntKind.wrap, IntKind.signed, IntKind.bits]; simp
 obtain ⟨rb, hrb⟩ : ∃ rb, rb = ZE.flatMap YK := ⟨_, rfl⟩
 have HRB := VL hrb
 have HLB := VL (show rb.length <= 744 by rw [hrb]; have := YD (f := YK) (s := 24) Za ZE; omega)
 clear hrb
 refine wp_region_held_drew (S := fun w' => ∀ i, w'.cell? ⟨q, i, none⟩ = (#[.int .i64 1, .int .u32 ZA, .int .u32 ZC, .int .u64 ZN, .int .u32 ZP, .int .u32 ZI, .int .u32 ZJ, .slice rA ZE.length rz, .string name, .slice sA ZG.length sz, .slice qA ZH.length qz, .int .u16 base, .int .u32 ref, .int .u8 count, .slice aA ZF.length az, .slice wA ZB.length wz] : Array Value)[i]?) (by kernel_rfl) (YV.out _ _ (.refl _) HST.out.drew) (fun ZL => ?_)
 refine wh 0 rfl (by kernel_rfl) (fun _ _ _ h => h) rfl ‹_› (by intro w h;go_simp;try with_reducible rfl) ?_
 try go_frame
 refine wh 1 rfl (by kernel_rfl) (fun _ _ _ h => h) rfl ‹_› (by intro w h;go_simp;try with_reducible rfl) ?_
 try go_frame
 refine wh 3 rfl (by kernel_rfl) (fun _ _ _ h => h) rfl ‹_› (by intro w h;go_simp;try with_reducible rfl) ?_
 try go_frame
 refine wh 4 rfl (by kernel_rfl) (fun _ _ _ h => h) rfl ‹_› (by intro w h;go_simp;try with_reducible rfl) ?_
 try go_frame
 refine wh 5 rfl (by kernel_rfl) (fun _ _ _ h => h) rfl ‹_› (by intro w h;go_simp;try with_reducible rfl) ?_
 try go_frame
 refine wh 6 rfl (by kernel_rfl) (fun _ _ _ h => h) rfl ‹_› (by intro w h;go_simp;try with_reducible rfl) ?_
 try go_frame
 refine wh 8 rfl (by kernel_rfl) (fun _ _ _ h => h) rfl ‹_› (by intro w h;go_simp;try with_reducible rfl) ?_
 try go_frame
 refine wh 9 rfl (by kernel_rfl) (fun _ _ _ h => h) rfl ‹_› (by intro w h;go_simp;try with_reducible rfl) ?_
 try go_frame
 refine wh 10 rfl (by kernel_rfl) (fun _ _ _ h => h) rfl ‹_› (by intro w h;go_simp;try with_reducible rfl) ?_
 try go_frame
 refine wh 12 rfl (by kernel_rfl) (fun _ _ _ h => h) rfl ‹_› (by intro w h;go_simp;try with_reducible rfl) ?_
 try go_frame
 refine wh 13 rfl (by kernel_rfl) (fun _ _ _ h => h) rfl ‹_› (by intro w h;go_simp;try with_reducible rfl) ?_
 try go_frame
 refine wh 15 rfl (by kernel_rfl) (fun _ _ _ h => h) rfl ‹_› (by intro w h;go_simp;try with_reducible rfl) ?_
 try go_frame
 refine wh 16 rfl (by kernel_rfl) (fun _ _ _ h => h) rfl ‹_› (by intro w h;go_simp;try with_reducible rfl) ?_
 try go_frame
 refine wh 18 rfl (by kernel_rfl) (fun _ _ _ h => h) rfl ‹_› (by intro w h;go_simp;try with_reducible rfl) ?_
 try go_frame
 refine wh 19 rfl (by kernel_rfl) (fun _ _ _ h => h) rfl ‹_› (by intro w h;go_simp;try with_reducible rfl) ?_
 try go_frame
 refine wh 21 rfl (by kernel_rfl) (fun _ _ _ h => h) rfl ‹_› (by intro w h;go_simp;try with_reducible rfl) ?_
 try go_frame
 refine wh 22 rfl (by kernel_rfl) (fun _ _ _ h => h) rfl ‹_› (by intro w h;go_simp;try with_reducible rfl) ?_
 try go_frame
 refine WR (I := I) (M := bk q 56 #[.int .i64 1, .int .u32 ZA, .int .u32 ZC, .int .u64 ZN, .int .u32 ZP, .int .u32 ZI, .int .u32 ZJ, .slice rA ZE.length rz, .string name, .slice sA ZG.length sz, .slice qA ZH.length qz, .int .u16 base, .int .u32 ref, .int .u8 count, .slice aA ZF.length az, .slice wA ZB.length wz] :: M) (l := [(2, 49, ZM ZA), (7, 54, ZM (ZN / 4294967296)), (11, 58, ZM (ZN % 4294967296)), (14, 61, ZM ZP), (17, 64, ZM ZI), (20, 67, ZM ZJ), (23, 70, rb)]) 3 (by kernel_rfl) (by simp only [List.map_cons, List.map_nil]; decide) (by simp only [List.map_cons, List.map_nil]; decide) YV.out HST.out.drew ?_ ?_
 ·refine List.forall_mem_cons.2 ⟨?_, List.forall_mem_cons.2 ⟨?_, List.forall_mem_cons.2 ⟨?_, List.forall_mem_cons.2 ⟨?_, List.forall_mem_cons.2 ⟨?_, List.forall_mem_cons.2 ⟨?_, List.forall_mem_cons.2 ⟨?_, fun _ h => by cases h⟩⟩⟩⟩⟩⟩⟩
  ·refine YI.call (o := _) rfl rfl rfl rfl (fun _ _ => rfl) ?_ (fun J w Z5 hs => (Yk J _ w (ZA) (HOK.out.ZA) hs).mono (fun _ _ h => h))
   intro xf; simp [Act.over, Zm, Act.eval, hw1, hw2]
  ·refine YI.call (o := _) rfl rfl rfl rfl (fun _ _ => rfl) ?_ (fun J w Z5 hs => (Yk J _ w (ZN / 4294967296) (⟨by omega, by omega⟩) hs).mono (fun _ _ h => h))
   intro xf; simp [Act.over, Zm, Act.eval, hw1, hw2]
  ·refine YI.call (o := _) rfl rfl rfl rfl (fun _ _ => rfl) ?_ (fun J w Z5 hs => (Yk J _ w (ZN % 4294967296) (⟨by omega, by omega⟩) hs).mono (fun _ _ h => h))
   intro xf; simp [Act.over, Zm, Act.eval, hw1, hw2]
  ·refine YI.call (o := _) rfl rfl rfl rfl (fun _ _ => rfl) ?_ (fun J w Z5 hs => (Yk J _ w (ZP) (HOK.out.ZP) hs).mono (fun _ _ h => h))
   intro xf; simp [Act.over, Zm, Act.eval, hw1, hw2]
  ·refine YI.call (o := _) rfl rfl rfl rfl (fun _ _ => rfl) ?_ (fun J w Z5 hs => (Yk J _ w (ZI) (HOK.out.ZI) hs).mono (fun _ _ h => h))
   intro xf; simp [Act.over, Zm, Act.eval, hw1, hw2]
  ·refine YI.call (o := _) rfl rfl rfl rfl (fun _ _ => rfl) ?_ (fun J w Z5 hs => (Yk J _ w (ZJ) (HOK.out.ZJ) hs).mono (fun _ _ h => h))
   intro xf; simp [Act.over, Zm, Act.eval, hw1, hw2]
  refine YI.call (o := _) rfl rfl rfl rfl (fun _ _ => rfl) ?_ (fun J w Z5 hs => (frz_cast HRB.out (reportsR J _ w rA rz ZE (HCR.out.mono Z5) n1 HOK.out.ZE hs)).mono (fun _ _ h => h))
  intro xf; simp [Act.over, Zm, Act.eval, hw1, hw2]
 intro xf J w Z5 hs hx
 have r0 : Xy (ZM ZA) (xf 49) J := hx (2, 49, ZM ZA) (by simp)
 have r1 : Xy (ZM (ZN / 4294967296)) (xf 54) J := hx (7, 54, ZM (ZN / 4294967296)) (by simp)
 have r2 : Xy (ZM (ZN % 4294967296)) (xf 58) J := hx (11, 58, ZM (ZN % 4294967296)) (by simp)
 have r3 : Xy (ZM ZP) (xf 61) J := hx (14, 61, ZM ZP) (by simp)
 have r4 : Xy (ZM ZI) (xf 64) J := hx (17, 64, ZM ZI) (by simp)
 have r5 : Xy (ZM ZJ) (xf 67) J := hx (20, 67, ZM ZJ) (by simp)
 have r6 : Xy (rb) (xf 70) J := hx (23, 70, rb) (by simp)
 simp only [List.map_cons, List.map_nil, Act.over, Zm, List.foldl_cons, List.foldl_nil, List.setIfInBounds_toArray, List.set_cons_zero, List.set_cons_succ]
 generalize xf 49 = v49 at *
 obtain ⟨A49, c49, rfl, b49⟩ := r0
 generalize xf 54 = v54 at *
 obtain ⟨A54, c54, rfl, b54⟩ := r1
 generalize xf 58 = v58 at *
 obtain ⟨A58, c58, rfl, b58⟩ := r2
 generalize xf 61 = v61 at *
 obtain ⟨A61, c61, rfl, b61⟩ := r3
 generalize xf 64 = v64 at *
 obtain ⟨A64, c64, rfl, b64⟩ := r4
 generalize xf 67 = v67 at *
 obtain ⟨A67, c67, rfl, b67⟩ := r5
 generalize xf 70 = v70 at *
 obtain ⟨A70, c70, rfl, b70⟩ := r6
 clear hx
 refine wpAnyH_ready (rs := [24]) (by kernel_rfl) (by simp) ?_
 refine AllReadyH.cons (o := _) rfl (fun K hK => ?_) AllReadyH.nil
 go_simp
 try clear ZL
 refine hK.out _ _ (YV.out J _ Z5 (hs.grow _)) (fun ZL => ?_)
 clear hK K
 try go_frame
 obtain ⟨J2, Zd, YN, Z4⟩ := (hs.alloc 24 #[.slice A49 (ZM ZA).length c49, .slice A54 (ZM (ZN / 4294967296)).length c54, .slice A58 (ZM (ZN % 4294967296)).length c58, .slice A61 (ZM ZP).length c61, .slice A64 (ZM ZI).length c64, .slice A67 (ZM ZJ).length c67, .slice A70 (rb).length c70]).Zg
 have hcs := Cells.Yv Z4
 refine wpAnyH_ready (rs := [25]) (by kernel_rfl) (by simp) ?_
 refine AllReadyH.cons (o := _) rfl (fun K hK => ?_) AllReadyH.nil
 go_simp
 go_at_call 35
 refine (WC J2 (bk q 56 #[.int .i64 1, .int .u32 ZA, .int .u32 ZC, .int .u64 ZN, .int .u32 ZP, .int .u32 ZI, .int .u32 ZJ, .slice rA ZE.length rz, .string name, .slice sA ZG.length sz, .slice qA ZH.length qz, .int .u16 base, .int .u32 ref, .int .u8 count, .slice aA ZF.length az, .slice wA ZB.length wz] :: M) _ (some ⟨w.heap.size, 0, none⟩) 7 [ZM ZA, ZM (ZN / 4294967296), ZM (ZN % 4294967296), ZM ZP, ZM ZI, ZM ZJ, rb] [.slice A49 (ZM ZA).length c49, .slice A54 (ZM (ZN / 4294967296)).length c54, .slice A58 (ZM (ZN % 4294967296)).length c58, .slice A61 (ZM ZP).length c61, .slice A64 (ZM ZI).length c64, .slice A67 (ZM ZJ).length c67, .slice A70 (rb).length c70] hcs ⟨⟨A49, c49, rfl, b49.mono Zd⟩, ⟨A54, c54, rfl, b54.mono Zd⟩, ⟨A58, c58, rfl, b58.mono Zd⟩, ⟨A61, c61, rfl, b61.mono Zd⟩, ⟨A64, c64, rfl, b64.mono Zd⟩, ⟨A67, c67, rfl, b67.mono Zd⟩, ⟨A70, c70, rfl, b70.mono Zd⟩, trivial⟩ (by simp) (by have := HLB.out; simp only [List.flatten_cons, List.flatten_nil, List.length_append, List.length_cons, List.length_nil, Zy, Zz]; omega) YN).mono ?_
 rintro e w3 ⟨_, _, _, rfl, _, Zf, rfl, A3, c3, rfl, hc3, rfl⟩
 obtain ⟨fl, hfl⟩ : ∃ z : List UInt8, z = ([ZM ZA, ZM (ZN / 4294967296), ZM (ZN % 4294967296), ZM ZP, ZM ZI, ZM ZJ, rb] : List (List UInt8)).flatten := ⟨_, rfl⟩
 rw [<- hfl] at Zf hc3 ⊢
 have HFLAT := VL hfl
 clear hfl
 try clear ZL
 refine hK.out _ _ (YV.out J2 _ (Z5.trans Zd) Zf.drop) (fun ZL => ?_)
 clear hK K
 try go_frame
 refine wh 26 rfl (by kernel_rfl) (fun _ _ _ h => h) rfl ‹_› (by intro w h;go_simp;try with_reducible rfl) ?_
 try go_frame
 refine wpAnyH_done (by kernel_rfl) ?_ _
 have hbq : fl = B := by rw [HFLAT.out, HBE.out]; exact body1 HGD.out HRB.out
 subst hbq
 have HS := VL Zf
 have HLE := VL (Z5.trans Zd)
 clear hs YN Zf ZL Z5 Zd hcs Z4 HFLAT
 generalize A3 = A4 at *
 go_upto_region 36 with fail
 go_loopw [3] (fun bv wr => ∃ (A : Option Addr) (n c : Nat), bv = .slice A n c /\ n <= 4000 /\ Hid (∃ (j : Nat) (J : Zh), n = fl.length + j /\ j <= (4 - fl.length % 4) % 4 /\ I.le J /\ St J (row 5 1 (.slice A n c) n (Z6 (fl ++ List.replicate j 0)) :: bk q 56 #[.int .i64 1, .int .u32 ZA, .int .u32 ZC, .int .u64 ZN, .int .u32 ZP, .int .u32 ZI, .int .u32 ZJ, .slice rA ZE.length rz, .string name, .slice sA ZG.length sz, .slice qA ZH.length qz, .int .u16 base, .int .u32 ref, .int .u8 count, .slice aA ZF.length az, .slice wA ZB.length wz] :: M) wr)) (fun bv _ => (4 - sliceLen bv % 4) % 4)
 case atStart => exact ⟨_, _, _, rfl, by omega, VL ⟨0, J2, rfl, Nat.zero_le _, HLE.out, by simpa using HS.out⟩⟩
 case round =>
  obtain ⟨A, n, c, rfl, hn, hh⟩ := hrel
  obtain ⟨j, J, hnj, hj, Z5, hs⟩ := hh.out
  clear hh HS HLE
  have hln : (fl ++ List.replicate j 0).length = n := by rw [hnj]; simp
  have HLN := VL hln
  have HRP := VL (X9 j)
  have HNJ := VL hnj
  by_cases Z0 : j < (4 - fl.length % 4) % 4
  ·have hm : ((n : Int) % 4 != 0) = true := by rw [bne_iff_ne]; omega
   obtain ⟨J3, YL, Zf, Z4⟩ := (hs.alloc 5 #[.int .u8 0]).Zg
   have HB1 := VL (show Xy [0] (.slice (some ⟨wr.heap.size, 0, none⟩) 1 1) J3 from ⟨_, 1, rfl, Zq.Yv Z4 rfl⟩)
   obtain ⟨bl, hbe⟩ : ∃ bl, bl = fl ++ List.replicate j 0 := ⟨_, rfl⟩
   rw [<- hbe] at Zf hln
   rw [<- hln] at Zf
   have HBL := VL hbe
   have HS3 := VL Zf
   have HLE := VL (Z5.trans YL)
   have HLT := VL Z0
   have HLL := VL hln
   clear hbe Z5 YL hs Zf Z4 hnj hj hln Z0
   go_wp2_with (at_builtin; refine Yq rfl _ _ rfl J3 _ _ _ _ _ (by rw [HLL.out]; rfl) rfl HS3.out HB1.out (by have := HLL.out; simp only [List.length_cons, List.length_nil]; omega) ?_)
   intro v3 w3 Zv
   obtain ⟨A5, c5, rfl⟩ := ZW (show World.ownsRow _ 0 5 1 v3 _ _ from St.at Zv 0 rfl)
   have hl5 : (bl ++ [0]).length = n + 1 := by rw [List.length_append, HLL.out]; rfl
   have Zo := show St J3 _ w3 from Zv
   rw [hl5] at Zo ⊢
   have HS5 := VL Zo
   clear Zv Zo HS3 HB1 hl5
   go_wp2
   go_roundw
   case rel =>
    refine ⟨A5, n + 1, c5, rfl, by have := HLT.out; have := HNJ.out; omega, VL ⟨j + 1, J3, by have := HNJ.out; omega, by have := HLT.out; omega, HLE.out, ?_⟩⟩
    have := HS5.out
    rw [HBL.out, List.append_assoc, <- HRP.out] at this
    exact this
   case measure =>
    have h1 := HNJ.out
    have h2 := HLT.out
    show (4 - (n + 1) % 4) % 4 < (4 - n % 4) % 4
    omega
  have hm : ((n : Int) % 4 != 0) = false := by rw [bne_eq_false_iff_eq]; omega
  have hjj : j = (4 - fl.length % 4) % 4 := by omega
  rw [hjj, WM] at hs hln
  obtain ⟨E, hE⟩ : ∃ E, E = YH fl := ⟨_, rfl⟩
  rw [<- hE] at hs hln
  have HE := VL hE
  obtain ⟨J3, YL, Zf, hb3⟩ := hs.ZR
  have HS3 := VL Zf
  have HB3 := VL (show Zq J3 A E from hb3)
  have HLE := VL (Z5.trans YL)
  have HLL := VL hln
  clear hs Zf hb3 Z5 YL hE hln hnj hj hjj Z0
  have hq1 : (ZE.length : Int) <= 31 := by omega
  have HV := VL (show [byteOf (128 + (ZE.length : Int)), byteOf 200] ++ Zi ((E.length / 4 : Nat) : Int) ++ E = ZV (⟨1, ZA, ZC, ZN, ZP, ZI, ZJ, ZE, name, ZG, ZH, base, ref, count, ZF, ZB⟩ : Pk) by
   have e1 : 128 + low = 128 + (ZE.length : Int) := by rw [HLE0.out]; rw [low1 HGD.out]
   rw [<- e1, HLE0.out, HE.out, HBE.out]
   rfl)
  obtain ⟨J4, hle4, Zv, Z4⟩ := (HS3.out.alloc 5 #[.int .u8 (128 + (ZE.length : Int)), .int .u8 200]).Zg
  have HB4 := VL (show Zq J4 (some ⟨wr.heap.size, 0, none⟩) [byteOf (128 + (ZE.length : Int)), byteOf 200] from Zq.Yv Z4 (WS (by omega) (by omega)))
  have HT := VL (twoR J4 _ _ ((n : Int) / 4) Zv)
  have HLE4 := VL hle4
  clear hle4 Zv Z4 HS3
  go_wp2_with fail
  go_at_call 39
  refine HT.out.mono ?_
  clear HT
  rintro e w2 ⟨_, _, _, rfl, _, ZY, rfl, A6, c6, rfl, hc6, rfl⟩
  obtain ⟨J5, hle5, Zo, hb5⟩ := ZY.ZR
  have hb5 : Zq J5 A6 (Zi ((n : Int) / 4 % 65536)) := hb5
  obtain ⟨J6, hle6, hs6, Z4⟩ := (Zo.alloc 24 #[.slice (some ⟨wr.heap.size, 0, none⟩) 2 2, .slice A6 (Zi ((n : Int) / 4 % 65536)).length c6, .slice A n c]).Zg
  have hcs := Cells.Yv Z4
  have HJ := VL (WC J6 (bk q 56 #[.int .i64 1, .int .u32 ZA, .int .u32 ZC, .int .u64 ZN, .int .u32 ZP, .int .u32 ZI, .int .u32 ZJ, .slice rA ZE.length rz, .string name, .slice sA ZG.length sz, .slice qA ZH.length qz, .int .u16 base, .int .u32 ref, .int .u8 count, .slice aA ZF.length az, .slice wA ZB.length wz] :: M) _ (some ⟨w2.heap.size, 0, none⟩) 3 [[byteOf (128 + (ZE.length : Int)), byteOf 200], Zi ((n : Int) / 4 % 65536), E] [.slice (some ⟨wr.heap.size, 0, none⟩) 2 2, .slice A6 (Zi ((n : Int) / 4 % 65536)).length c6, .slice A n c] hcs ⟨⟨_, 2, rfl, (HB4.out.mono hle5).mono hle6⟩, ⟨A6, c6, rfl, hb5.mono hle6⟩, ⟨A, c, by rw [HLL.out], ((HB3.out.mono HLE4.out).mono hle5).mono hle6⟩, trivial⟩ (by simp) (by have := HLL.out; simp only [List.flatten_cons, List.flatten_nil, List.length_append, List.length_cons, List.length_nil, Zz]; omega) hs6)
  have HL := VL (((HLE.out.trans HLE4.out).trans hle5).trans hle6)
  clear ZY Zo hs6 hb5 hc6 Z4 hcs hle5 hle6 HB3 HB4
  go_wp2_with fail
  go_at_call 35
  refine HJ.out.mono ?_
  clear HJ
  rintro e w4 ⟨_, _, _, rfl, _, hs7, rfl, A7, c7, rfl, hc7, rfl⟩
  have HPE := VL (show ([[byteOf (128 + (ZE.length : Int)), byteOf 200], Zi ((n : Int) / 4 % 65536), E] : List (List UInt8)).flatten = ZV (⟨1, ZA, ZC, ZN, ZP, ZI, ZJ, ZE, name, ZG, ZH, base, ref, count, ZF, ZB⟩ : Pk) by
   rw [<- HV.out, HLL.out]
   have e2 : (n : Int) / 4 % 65536 = ((n / 4 : Nat) : Int) := by omega
   rw [e2]
   simp)
  rw [HPE.out] at hs7 hc7 ⊢
  have HF := VL (show Bui I M (⟨1, ZA, ZC, ZN, ZP, ZI, ZJ, ZE, name, ZG, ZH, base, ref, count, ZF, ZB⟩ : Pk) (.returned _) w4 from YR.mk HL.out (St.ZQ hs7).drop ⟨A7, c7, rfl, rfl⟩)
  clear hs7 hc7 HPE HV
  generalize ZV (⟨1, ZA, ZC, ZN, ZP, ZI, ZJ, ZE, name, ZG, ZH, base, ref, count, ZF, ZB⟩ : Pk) = pbs at *
  go_wp2
  go_returns
  exact HF.out
set_option maxRecDepth 100000 in
set_option maxHeartbeats 40000000 in
theorem build2 (I : Zh) (M : List Zt) (w : World) (ZA : Int) (ZC : Int) (ZN : Int) (ZP : Int) (ZI : Int) (ZJ : Int) (base : Int) (ref : Int) (count : Int) (name : ByteArray) (ZE : List Rp) (ZG ZH ZF : List Int) (ZB : List Wn) (rA : Option Addr) (rz : Nat) (sA : Option Addr) (sz : Nat) (qA : Option Addr) (qz : Nat) (aA : Option Addr) (az : Nat) (wA : Option Addr) (wz : Nat) (cr : Cells I rA (flat Yt ZE)) (cs : Cells I sA (flat Xd ZG)) (cq : Cells I qA (flat Yp ZH)) (ca : Cells I aA (flat XC ZF)) (cw : Cells I wA (flat WO ZB)) (hok : Y6 (⟨2, ZA, ZC, ZN, ZP, ZI, ZJ, ZE, name, ZG, ZH, base, ref, count, ZF, ZB⟩ : Pk)) (hg : Good (⟨2, ZA, ZC, ZN, ZP, ZI, ZJ, ZE, name, ZG, ZH, base, ref, count, ZF, ZB⟩ : Pk)) (ZX : St I M w) :
  Calls Try.prog 18 #[.agg #[.int .i64 2, .int .u32 ZA, .int .u32 ZC, .int .u64 ZN, .int .u32 ZP, .int .u32 ZI, .int .u32 ZJ, .slice rA ZE.length rz, .string name, .slice sA ZG.length sz, .slice qA ZH.length qz, .int .u16 base, .int .u32 ref, .int .u8 count, .slice aA ZF.length az, .slice wA ZB.length wz]] w (Bui I M (⟨2, ZA, ZC, ZN, ZP, ZI, ZJ, ZE, name, ZG, ZH, base, ref, count, ZF, ZB⟩ : Pk)) := by
 have ZY := ZX.alloc 56 #[.int .i64 2, .int .u32 ZA, .int .u32 ZC, .int .u64 ZN, .int .u32 ZP, .int .u32 ZI, .int .u32 ZJ, .slice rA ZE.length rz, .string name, .slice sA ZG.length sz, .slice qA ZH.length qz, .int .u16 base, .int .u32 ref, .int .u8 count, .slice aA ZF.length az, .slice wA ZB.length wz]
 have HOK := VL hok
 have HGD := VL hg
 have hbl := Xt hg
 obtain ⟨n1, n2, n3, n4, n5, n6⟩ := Y0 hg
 have HLOW := VL (XB hg)
 simp only [] at n1 n2 n3 n4 n5 n6
 have HCR := VL cr
 have HCS := VL cs
 have HCW := VL cw
 have HCQ := VL cq
 have HCA := VL ca
 clear cr cs cq ca cw hok hg ZX
 obtain ⟨B, hB⟩ : ∃ B, B = Zu (⟨2, ZA, ZC, ZN, ZP, ZI, ZJ, ZE, name, ZG, ZH, base, ref, count, ZF, ZB⟩ : Pk) := ⟨_, rfl⟩
 rw [<- hB] at hbl
 obtain ⟨low, hlow⟩ : ∃ low, low = XV (⟨2, ZA, ZC, ZN, ZP, ZI, ZJ, ZE, name, ZG, ZH, base, ref, count, ZF, ZB⟩ : Pk) := ⟨_, rfl⟩
 obtain ⟨q, hq⟩ : ∃ q, q = w.heap.size := ⟨_, rfl⟩
 rw [<- hq] at ZY
 have HBE := VL hB
 have HLE0 := VL hlow
 clear hB hlow
 go_enter Try.func18, Try.ntmps18
 go_upto_region 1 with fail
 rw [<- hq]
 clear hq
 generalize World.alloc w _ = W at ZY ⊢
 obtain ⟨Zc, hf1, hl1⟩ := ZO.all (ZY.at 0 rfl)
 have HST := VL ZY
 clear ZY
 go_upto_region 16 with fail
 clear Zc hf1 hl1
 have YV := VL (fun (J : Zh) (w' : World) (_ : I.le J) (hs : St J (bk q 56 #[.int .i64 2, .int .u32 ZA, .int .u32 ZC, .int .u64 ZN, .int .u32 ZP, .int .u32 ZI, .int .u32 ZJ, .slice rA ZE.length rz, .string name, .slice sA ZG.length sz, .slice qA ZH.length qz, .int .u16 base, .int .u32 ref, .int .u8 count, .slice aA ZF.length az, .slice wA ZB.length wz] :: M) w') => (show ∀ i, w'.cell? ⟨q, i, none⟩ = (#[.int .i64 2, .int .u32 ZA, .int .u32 ZC, .int .u64 ZN, .int .u32 ZP, .int .u32 ZI, .int .u32 ZJ, .slice rA ZE.length rz, .string name, .slice sA ZG.length sz, .slice qA ZH.length qz, .int .u16 base, .int .u32 ref, .int .u8 count, .slice aA ZF.length az, .slice wA ZB.length wz] : Array Value)[i]? from (ZO.all (hs.at 0 rfl)).1))
 obtain ⟨rb, hrb⟩ : ∃ rb, rb = ZE.flatMap YK := ⟨_, rfl⟩
 have HRB := VL hrb
 have HLB := VL (show rb.length <= 744 by rw [hrb]; have := YD (f := YK) (s := 24) Za ZE; omega)
 clear hrb
 refine wp_region_held_drew (S := fun w' => ∀ i, w'.cell? ⟨q, i, none⟩ = (#[.int .i64 2, .int .u32 ZA, .int .u32 ZC, .int .u64 ZN, .int .u32 ZP, .int .u32 ZI, .int .u32 ZJ, .slice rA ZE.length rz, .string name, .slice sA ZG.length sz, .slice qA ZH.length qz, .int .u16 base, .int .u32 ref, .int .u8 count, .slice aA ZF.length az, .slice wA ZB.length wz] : Array Value)[i]?) (by kernel_rfl) (YV.out _ _ (.refl _) HST.out.drew) (fun ZL => ?_)
 refine wh 0 rfl (by kernel_rfl) (fun _ _ _ h => h) rfl ‹_› (by intro w h;go_simp;try with_reducible rfl) ?_
 try go_frame
 refine wh 1 rfl (by kernel_rfl) (fun _ _ _ h => h) rfl ‹_› (by intro w h;go_simp;try with_reducible rfl) ?_
 try go_frame
 refine wh 3 rfl (by kernel_rfl) (fun _ _ _ h => h) rfl ‹_› (by intro w h;go_simp;try with_reducible rfl) ?_
 try go_frame
 refine wh 4 rfl (by kernel_rfl) (fun _ _ _ h => h) rfl ‹_› (by intro w h;go_simp;try with_reducible rfl) ?_
 try go_frame
 refine WR (I := I) (M := bk q 56 #[.int .i64 2, .int .u32 ZA, .int .u32 ZC, .int .u64 ZN, .int .u32 ZP, .int .u32 ZI, .int .u32 ZJ, .slice rA ZE.length rz, .string name, .slice sA ZG.length sz, .slice qA ZH.length qz, .int .u16 base, .int .u32 ref, .int .u8 count, .slice aA ZF.length az, .slice wA ZB.length wz] :: M) (l := [(2, 80, ZM ZA), (5, 83, rb)]) 3 (by kernel_rfl) (by simp only [List.map_cons, List.map_nil]; decide) (by simp only [List.map_cons, List.map_nil]; decide) YV.out HST.out.drew ?_ ?_
 ·refine List.forall_mem_cons.2 ⟨?_, List.forall_mem_cons.2 ⟨?_, fun _ h => by cases h⟩⟩
  ·refine YI.call (o := _) rfl rfl rfl rfl (fun _ _ => rfl) ?_ (fun J w Z5 hs => (Yk J _ w (ZA) (HOK.out.ZA) hs).mono (fun _ _ h => h))
   intro xf; simp [Act.over, Zm, Act.eval]
  refine YI.call (o := _) rfl rfl rfl rfl (fun _ _ => rfl) ?_ (fun J w Z5 hs => (frz_cast HRB.out (reportsR J _ w rA rz ZE (HCR.out.mono Z5) n1 HOK.out.ZE hs)).mono (fun _ _ h => h))
  intro xf; simp [Act.over, Zm, Act.eval]
 intro xf J w Z5 hs hx
 have r0 : Xy (ZM ZA) (xf 80) J := hx (2, 80, ZM ZA) (by simp)
 have r1 : Xy (rb) (xf 83) J := hx (5, 83, rb) (by simp)
 simp only [List.map_cons, List.map_nil, Act.over, Zm, List.foldl_cons, List.foldl_nil, List.setIfInBounds_toArray, List.set_cons_zero, List.set_cons_succ]
 generalize xf 80 = v80 at *
 obtain ⟨A80, c80, rfl, b80⟩ := r0
 generalize xf 83 = v83 at *
 obtain ⟨A83, c83, rfl, b83⟩ := r1
 clear hx
 refine wpAnyH_ready (rs := [6]) (by kernel_rfl) (by simp) ?_
 refine AllReadyH.cons (o := _) rfl (fun K hK => ?_) AllReadyH.nil
 go_simp
 try clear ZL
 refine hK.out _ _ (YV.out J _ Z5 (hs.grow _)) (fun ZL => ?_)
 clear hK K
 try go_frame
 obtain ⟨J2, Zd, YN, Z4⟩ := (hs.alloc 24 #[.slice A80 (ZM ZA).length c80, .slice A83 (rb).length c83]).Zg
 have hcs := Cells.Yv Z4
 refine wpAnyH_ready (rs := [7]) (by kernel_rfl) (by simp) ?_
 refine AllReadyH.cons (o := _) rfl (fun K hK => ?_) AllReadyH.nil
 go_simp
 go_at_call 35
 refine (WC J2 (bk q 56 #[.int .i64 2, .int .u32 ZA, .int .u32 ZC, .int .u64 ZN, .int .u32 ZP, .int .u32 ZI, .int .u32 ZJ, .slice rA ZE.length rz, .string name, .slice sA ZG.length sz, .slice qA ZH.length qz, .int .u16 base, .int .u32 ref, .int .u8 count, .slice aA ZF.length az, .slice wA ZB.length wz] :: M) _ (some ⟨w.heap.size, 0, none⟩) 2 [ZM ZA, rb] [.slice A80 (ZM ZA).length c80, .slice A83 (rb).length c83] hcs ⟨⟨A80, c80, rfl, b80.mono Zd⟩, ⟨A83, c83, rfl, b83.mono Zd⟩, trivial⟩ (by simp) (by have := HLB.out; simp only [List.flatten_cons, List.flatten_nil, List.length_append, List.length_cons, List.length_nil, Zy, Zz]; omega) YN).mono ?_
 rintro e w3 ⟨_, _, _, rfl, _, Zf, rfl, A3, c3, rfl, hc3, rfl⟩
 obtain ⟨fl, hfl⟩ : ∃ z : List UInt8, z = ([ZM ZA, rb] : List (List UInt8)).flatten := ⟨_, rfl⟩
 rw [<- hfl] at Zf hc3 ⊢
 have HFLAT := VL hfl
 clear hfl
 try clear ZL
 refine hK.out _ _ (YV.out J2 _ (Z5.trans Zd) Zf.drop) (fun ZL => ?_)
 clear hK K
 try go_frame
 refine wh 8 rfl (by kernel_rfl) (fun _ _ _ h => h) rfl ‹_› (by intro w h;go_simp;try with_reducible rfl) ?_
 try go_frame
 refine wpAnyH_done (by kernel_rfl) ?_ _
 have hbq : fl = B := by rw [HFLAT.out, HBE.out]; exact body2 HGD.out HRB.out
 subst hbq
 have HS := VL Zf
 have HLE := VL (Z5.trans Zd)
 clear hs YN Zf ZL Z5 Zd hcs Z4 HFLAT
 generalize A3 = A4 at *
 go_upto_region 36 with fail
 go_loopw [3] (fun bv wr => ∃ (A : Option Addr) (n c : Nat), bv = .slice A n c /\ n <= 4000 /\ Hid (∃ (j : Nat) (J : Zh), n = fl.length + j /\ j <= (4 - fl.length % 4) % 4 /\ I.le J /\ St J (row 5 1 (.slice A n c) n (Z6 (fl ++ List.replicate j 0)) :: bk q 56 #[.int .i64 2, .int .u32 ZA, .int .u32 ZC, .int .u64 ZN, .int .u32 ZP, .int .u32 ZI, .int .u32 ZJ, .slice rA ZE.length rz, .string name, .slice sA ZG.length sz, .slice qA ZH.length qz, .int .u16 base, .int .u32 ref, .int .u8 count, .slice aA ZF.length az, .slice wA ZB.length wz] :: M) wr)) (fun bv _ => (4 - sliceLen bv % 4) % 4)
 case atStart => exact ⟨_, _, _, rfl, by omega, VL ⟨0, J2, rfl, Nat.zero_le _, HLE.out, by simpa using HS.out⟩⟩
 case round =>
  obtain ⟨A, n, c, rfl, hn, hh⟩ := hrel
  obtain ⟨j, J, hnj, hj, Z5, hs⟩ := hh.out
  clear hh HS HLE
  have hln : (fl ++ List.replicate j 0).length = n := by rw [hnj]; simp
  have HLN := VL hln
  have HRP := VL (X9 j)
  have HNJ := VL hnj
  by_cases Z0 : j < (4 - fl.length % 4) % 4
  ·have hm : ((n : Int) % 4 != 0) = true := by rw [bne_iff_ne]; omega
   obtain ⟨J3, YL, Zf, Z4⟩ := (hs.alloc 5 #[.int .u8 0]).Zg
   have HB1 := VL (show Xy [0] (.slice (some ⟨wr.heap.size, 0, none⟩) 1 1) J3 from ⟨_, 1, rfl, Zq.Yv Z4 rfl⟩)
   obtain ⟨bl, hbe⟩ : ∃ bl, bl = fl ++ List.replicate j 0 := ⟨_, rfl⟩
   rw [<- hbe] at Zf hln
   rw [<- hln] at Zf
   have HBL := VL hbe
   have HS3 := VL Zf
   have HLE := VL (Z5.trans YL)
   have HLT := VL Z0
   have HLL := VL hln
   clear hbe Z5 YL hs Zf Z4 hnj hj hln Z0
   go_wp2_with (at_builtin; refine Yq rfl _ _ rfl J3 _ _ _ _ _ (by rw [HLL.out]; rfl) rfl HS3.out HB1.out (by have := HLL.out; simp only [List.length_cons, List.length_nil]; omega) ?_)
   intro v3 w3 Zv
   obtain ⟨A5, c5, rfl⟩ := ZW (show World.ownsRow _ 0 5 1 v3 _ _ from St.at Zv 0 rfl)
   have hl5 : (bl ++ [0]).length = n + 1 := by rw [List.length_append, HLL.out]; rfl
   have Zo := show St J3 _ w3 from Zv
   rw [hl5] at Zo ⊢
   have HS5 := VL Zo
   clear Zv Zo HS3 HB1 hl5
   go_wp2
   go_roundw
   case rel =>
    refine ⟨A5, n + 1, c5, rfl, by have := HLT.out; have := HNJ.out; omega, VL ⟨j + 1, J3, by have := HNJ.out; omega, by have := HLT.out; omega, HLE.out, ?_⟩⟩
    have := HS5.out
    rw [HBL.out, List.append_assoc, <- HRP.out] at this
    exact this
   case measure =>
    have h1 := HNJ.out
    have h2 := HLT.out
    show (4 - (n + 1) % 4) % 4 < (4 - n % 4) % 4
    omega
  have hm : ((n : Int) % 4 != 0) = false := by rw [bne_eq_false_iff_eq]; omega
  have hjj : j = (4 - fl.length % 4) % 4 := by omega
  rw [hjj, WM] at hs hln
  obtain ⟨E, hE⟩ : ∃ E, E = YH fl := ⟨_, rfl⟩
  rw [<- hE] at hs hln
  have HE := VL hE
  obtain ⟨J3, YL, Zf, hb3⟩ := hs.ZR
  have HS3 := VL Zf
  have HB3 := VL (show Zq J3 A E from hb3)
  have HLE := VL (Z5.trans YL)
  have HLL := VL hln
  clear hs Zf hb3 Z5 YL hE hln hnj hj hjj Z0
  have hq1 : (ZE.length : Int) <= 31 := by omega
  have HV := VL (show [byteOf (128 + (ZE.length : Int)), byteOf 201] ++ Zi ((E.length / 4 : Nat) : Int) ++ E = ZV (⟨2, ZA, ZC, ZN, ZP, ZI, ZJ, ZE, name, ZG, ZH, base, ref, count, ZF, ZB⟩ : Pk) by
   have e1 : 128 + low = 128 + (ZE.length : Int) := by rw [HLE0.out]; rw [low2 HGD.out]
   rw [<- e1, HLE0.out, HE.out, HBE.out]
   rfl)
  obtain ⟨J4, hle4, Zv, Z4⟩ := (HS3.out.alloc 5 #[.int .u8 (128 + (ZE.length : Int)), .int .u8 201]).Zg
  have HB4 := VL (show Zq J4 (some ⟨wr.heap.size, 0, none⟩) [byteOf (128 + (ZE.length : Int)), byteOf 201] from Zq.Yv Z4 (WS (by omega) (by omega)))
  have HT := VL (twoR J4 _ _ ((n : Int) / 4) Zv)
  have HLE4 := VL hle4
  clear hle4 Zv Z4 HS3
  go_wp2_with fail
  go_at_call 39
  refine HT.out.mono ?_
  clear HT
  rintro e w2 ⟨_, _, _, rfl, _, ZY, rfl, A6, c6, rfl, hc6, rfl⟩
  obtain ⟨J5, hle5, Zo, hb5⟩ := ZY.ZR
  have hb5 : Zq J5 A6 (Zi ((n : Int) / 4 % 65536)) := hb5
  obtain ⟨J6, hle6, hs6, Z4⟩ := (Zo.alloc 24 #[.slice (some ⟨wr.heap.size, 0, none⟩) 2 2, .slice A6 (Zi ((n : Int) / 4 % 65536)).length c6, .slice A n c]).Zg
  have hcs := Cells.Yv Z4
  have HJ := VL (WC J6 (bk q 56 #[.int .i64 2, .int .u32 ZA, .int .u32 ZC, .int .u64 ZN, .int .u32 ZP, .int .u32 ZI, .int .u32 ZJ, .slice rA ZE.length rz, .string name, .slice sA ZG.length sz, .slice qA ZH.length qz, .int .u16 base, .int .u32 ref, .int .u8 count, .slice aA ZF.length az, .slice wA ZB.length wz] :: M) _ (some ⟨w2.heap.size, 0, none⟩) 3 [[byteOf (128 + (ZE.length : Int)), byteOf 201], Zi ((n : Int) / 4 % 65536), E] [.slice (some ⟨wr.heap.size, 0, none⟩) 2 2, .slice A6 (Zi ((n : Int) / 4 % 65536)).length c6, .slice A n c] hcs ⟨⟨_, 2, rfl, (HB4.out.mono hle5).mono hle6⟩, ⟨A6, c6, rfl, hb5.mono hle6⟩, ⟨A, c, by rw [HLL.out], ((HB3.out.mono HLE4.out).mono hle5).mono hle6⟩, trivial⟩ (by simp) (by have := HLL.out; simp only [List.flatten_cons, List.flatten_nil, List.length_append, List.length_cons, List.length_nil, Zz]; omega) hs6)
  have HL := VL (((HLE.out.trans HLE4.out).trans hle5).trans hle6)
  clear ZY Zo hs6 hb5 hc6 Z4 hcs hle5 hle6 HB3 HB4
  go_wp2_with fail
  go_at_call 35
  refine HJ.out.mono ?_
  clear HJ
  rintro e w4 ⟨_, _, _, rfl, _, hs7, rfl, A7, c7, rfl, hc7, rfl⟩
  have HPE := VL (show ([[byteOf (128 + (ZE.length : Int)), byteOf 201], Zi ((n : Int) / 4 % 65536), E] : List (List UInt8)).flatten = ZV (⟨2, ZA, ZC, ZN, ZP, ZI, ZJ, ZE, name, ZG, ZH, base, ref, count, ZF, ZB⟩ : Pk) by
   rw [<- HV.out, HLL.out]
   have e2 : (n : Int) / 4 % 65536 = ((n / 4 : Nat) : Int) := by omega
   rw [e2]
   simp)
  rw [HPE.out] at hs7 hc7 ⊢
  have HF := VL (show Bui I M (⟨2, ZA, ZC, ZN, ZP, ZI, ZJ, ZE, name, ZG, ZH, base, ref, count, ZF, ZB⟩ : Pk) (.returned _) w4 from YR.mk HL.out (St.ZQ hs7).drop ⟨A7, c7, rfl, rfl⟩)
  clear hs7 hc7 HPE HV
  generalize ZV (⟨2, ZA, ZC, ZN, ZP, ZI, ZJ, ZE, name, ZG, ZH, base, ref, count, ZF, ZB⟩ : Pk) = pbs at *
  go_wp2
  go_returns
  exact HF.out
end Go.Proofs.Ytddopbbmgpnjjaa
