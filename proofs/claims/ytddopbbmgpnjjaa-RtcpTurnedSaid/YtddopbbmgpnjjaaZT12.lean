/- part. -/
import Derived.Test.YtddopbbmgpnjjaaZT09
import Derived.Deep.RegionHeld
import Derived.OrdersIn
namespace Go.Proofs.Ytddopbbmgpnjjaa
set_option linter.unusedSimpArgs false
open Go.RowKit
attribute [local go_sem] Oper.semAt_some
set_option maxRecDepth 100000 in
set_option maxHeartbeats 40000000 in
theorem write5 (I : Zh) (M : List Zt) (w : World) (ZA : Int) (ZC : Int) (ZN : Int) (ZP : Int) (ZI : Int) (ZJ : Int) (base : Int) (ref : Int) (count : Int) (name : ByteArray) (ZE : List Rp) (ZG ZH ZF : List Int) (ZB : List Wn) (rA : Option Addr) (rz : Nat) (sA : Option Addr) (sz : Nat) (qA : Option Addr) (qz : Nat) (aA : Option Addr) (az : Nat) (wA : Option Addr) (wz : Nat) (cr : Cells I rA (flat Yt ZE)) (cs : Cells I sA (flat Xd ZG)) (cq : Cells I qA (flat Yp ZH)) (ca : Cells I aA (flat XC ZF)) (cw : Cells I wA (flat WO ZB)) (p : Nat) (v : Value) (lp : List UInt8) (hok : Y6 (⟨5, ZA, ZC, ZN, ZP, ZI, ZJ, ZE, name, ZG, ZH, base, ref, count, ZF, ZB⟩ : Pk)) (hg : Good (⟨5, ZA, ZC, ZN, ZP, ZI, ZJ, ZE, name, ZG, ZH, base, ref, count, ZF, ZB⟩ : Pk)) (hl0 : lp.length <= 70368744170000) (hqz : ZH.length <= qz) (ZX : St I (row 5 1 v lp.length (Z6 lp) :: bk p 60 #[v] :: M) w) :
  Calls Try.prog 21 #[.agg #[.int .i64 5, .int .u32 ZA, .int .u32 ZC, .int .u64 ZN, .int .u32 ZP, .int .u32 ZI, .int .u32 ZJ, .slice rA ZE.length rz, .string name, .slice sA ZG.length sz, .slice qA ZH.length qz, .int .u16 base, .int .u32 ref, .int .u8 count, .slice aA ZF.length az, .slice wA ZB.length wz], .pointer (some ⟨p, 0, none⟩)] w (YR I (fun v' _ M' => Wrote M p 60 (lp ++ ZV (⟨5, ZA, ZC, ZN, ZP, ZI, ZJ, ZE, name, ZG, ZH, base, ref, count, ZF, ZB⟩ : Pk)) v' M')) := by
 have ZY := ZX.alloc 51 #[.int .i64 5, .int .u32 ZA, .int .u32 ZC, .int .u64 ZN, .int .u32 ZP, .int .u32 ZI, .int .u32 ZJ, .slice rA ZE.length rz, .string name, .slice sA ZG.length sz, .slice qA ZH.length qz, .int .u16 base, .int .u32 ref, .int .u8 count, .slice aA ZF.length az, .slice wA ZB.length wz]
 have HOK := VL hok
 obtain ⟨n1, n2, n3, n4, n5, n6⟩ := Y0 hg
 have HLOW := VL (XB hg)
 simp only [] at n1 n2 n3 n4 n5 n6
 have HCR := VL cr
 have HCS := VL cs
 have HCW := VL cw
 have HCQ := VL cq
 have HCA := VL ca
 clear cr cs cq ca cw
 have HW := VL (VD 5 (w.alloc (.cells #[.int .i64 5, .int .u32 ZA, .int .u32 ZC, .int .u64 ZN, .int .u32 ZP, .int .u32 ZI, .int .u32 ZJ, .slice rA ZE.length rz, .string name, .slice sA ZG.length sz, .slice qA ZH.length qz, .int .u16 base, .int .u32 ref, .int .u8 count, .slice aA ZF.length az, .slice wA ZB.length wz] 51)))
 obtain ⟨q1, hq1⟩ : ∃ q, q = w.heap.size := ⟨_, rfl⟩
 rw [<- hq1] at ZY
 clear ZX hok hg
 refine callsIn_wide.1 (callsIn_of_wp_marks (n := 0) Try.func21 rfl trivial (wpIn_wide.2 ?_))
 simp only [Try.ntmps21, List.size_toArray, List.length_cons, List.length_nil, Nat.reduceAdd, Nat.reduceSub, Array.replicate_succ, Array.replicate_zero, List.push_toArray, List.append_toArray, List.nil_append, List.cons_append]
 go_upto_region 1 with fail
 rw [<- hq1]
 clear hq1
 generalize World.alloc w _ = W at ZY HW ⊢
 obtain ⟨Zc, hf1, hl1⟩ := ZO.all (ZY.at 0 rfl)
 have HS0 := VL ZY
 clear ZY
 go_wp2_with fail
 go_at_call 47
 refine HW.out.mono ?_
 rintro e w2 ⟨rfl, hw⟩
 subst hw
 simp only [Z8, if_true, if_false, Int.reduceEq, Int.reduceNeg]
 clear HW
 go_upto_region 5 with fail
 have hs : St I (row 5 1 (.slice none 0 0) ([] : List UInt8).length (Z6 []) :: bk W.heap.size 60 #[.slice none 0 0] :: bk q1 51 #[.int .i64 5, .int .u32 ZA, .int .u32 ZC, .int .u64 ZN, .int .u32 ZP, .int .u32 ZI, .int .u32 ZJ, .slice rA ZE.length rz, .string name, .slice sA ZG.length sz, .slice qA ZH.length qz, .int .u16 base, .int .u32 ref, .int .u8 count, .slice aA ZF.length az, .slice wA ZB.length wz] :: row 5 1 v lp.length (Z6 lp) :: bk p 60 #[v] :: M) (W.alloc (.cells #[.slice none 0 0] 60)) := (HS0.out.alloc 60 #[.slice none 0 0]).nil
 obtain ⟨B, hB⟩ : ∃ B, B = W.heap.size := ⟨_, rfl⟩
 rw [<- hB] at hs ⊢
 generalize World.alloc W _ = W2 at hs ⊢
 clear hB Zc hf1 hl1 HS0
 obtain ⟨cs1, hcs1⟩ : ∃ z : Array Value, z = #[.int .i64 5, .int .u32 ZA, .int .u32 ZC, .int .u64 ZN, .int .u32 ZP, .int .u32 ZI, .int .u32 ZJ, .slice rA ZE.length rz, .string name, .slice sA ZG.length sz, .slice qA ZH.length qz, .int .u16 base, .int .u32 ref, .int .u8 count, .slice aA ZF.length az, .slice wA ZB.length wz] := ⟨_, rfl⟩
 rw [<- hcs1] at hs
 have HC1 := VL hcs1
 clear hcs1
 obtain ⟨vb, hvb⟩ : ∃ vb : Value, vb = .slice none 0 0 := ⟨_, rfl⟩
 rw [<- hvb] at hs
 clear hvb
 obtain ⟨lw, hlw⟩ : ∃ lw, lw = lp := ⟨_, rfl⟩
 rw [<- hlw] at hs hl0
 have HLW := VL hlw
 clear hlw
 obtain ⟨l0, e0⟩ : ∃ z : List UInt8, z = [] := ⟨_, rfl⟩
 rw [<- e0] at hs
 have HL0 := VL (show l0.length <= 0 from by rw [e0]; exact Nat.le_refl _)
 have HE0 := VL e0
 have HS := VL hs
 clear hs e0
 obtain ⟨Zc, hf1, hl1⟩ := ZO.all (HS.out.at 2 rfl)
 rw [HC1.out] at Zc
 obtain ⟨hcb, hfb, hlb⟩ := (show ZO _ B 60 #[_] from HS.out.at 1 rfl).one
 have HC := VL (Xk (I := I) B 60 vb l0 ZA HS.out (by have := HL0.out; omega) HOK.out.ZA)
 go_wp2_with fail
 go_at_call 48
 refine HC.out.mono ?_
 clear Zc hf1 hl1 hcb hfb hlb
 clear HS HC vb
 rintro e w2 ⟨_, _, _, rfl, _, hs, rfl, rfl, vb, rfl⟩
 obtain ⟨l1, e1⟩ : ∃ z, z = l0 ++ ZM ZA := ⟨_, rfl⟩
 rw [<- e1] at hs
 have HL1 := VL (show l1.length <= 4 from by rw [e1, List.length_append]; have := HL0.out; have : (ZM ZA).length = 4 := (by first | rfl | simp); omega)
 have HE1 := VL e1
 clear e1
 have HS := VL hs
 clear hs
 obtain ⟨Zc, hf1, hl1⟩ := ZO.all (HS.out.at 2 rfl)
 rw [HC1.out] at Zc
 obtain ⟨hcb, hfb, hlb⟩ := (show ZO _ B 60 #[_] from HS.out.at 1 rfl).one
 have HC := VL (Xk (I := I) B 60 vb l1 ZC HS.out (by have := HL1.out; omega) HOK.out.ZC)
 go_wp2_with fail
 go_at_call 48
 refine HC.out.mono ?_
 clear Zc hf1 hl1 hcb hfb hlb
 clear HS HC vb
 rintro e w2 ⟨_, _, _, rfl, _, hs, rfl, rfl, vb, rfl⟩
 obtain ⟨l2, e2⟩ : ∃ z, z = l1 ++ ZM ZC := ⟨_, rfl⟩
 rw [<- e2] at hs
 have HL2 := VL (show l2.length <= 8 from by rw [e2, List.length_append]; have := HL1.out; have : (ZM ZC).length = 4 := (by first | rfl | simp); omega)
 have HE2 := VL e2
 clear e2
 have HS := VL hs
 clear hs
 obtain ⟨Zc, hf1, hl1⟩ := ZO.all (HS.out.at 2 rfl)
 rw [HC1.out] at Zc
 obtain ⟨hcb, hfb, hlb⟩ := (show ZO _ B 60 #[_] from HS.out.at 1 rfl).one
 have HC := VL (pieces51 w2 qA ZH.length qz)
 go_wp2_with fail
 go_at_call 51
 refine HC.out.mono ?_
 clear Zc hf1 hl1 hcb hfb hlb
 rintro e w3 ⟨rfl, hw⟩
 have hs := HS.out.alloc 44 #[.slice qA ZH.length qz]
 rw [<- hw] at hs
 obtain ⟨PB, hPB⟩ : ∃ q, q = w2.heap.size := ⟨_, rfl⟩
 rw [<- hPB] at hs ⊢
 clear hw hPB HC HS
 have HS := VL hs
 clear hs
 go_wp2_with fail
 obtain ⟨l, hl⟩ : ∃ l, l = w3.heap.size + 1 := ⟨_, rfl⟩
 obtain ⟨D, hD⟩ : ∃ D, D = w3.heap.size := ⟨_, rfl⟩
 refine range_two (α := Int × Int) (σ := PSt) okP stepP (I, l2, .slice qA ZH.length qz) (gf := 70) (lb := #[.pointer (some ⟨PB, 0, none⟩)]) 91 92 9 10 rfl (fun args w => by kernel_rfl) (fun x => .int .u16 x.1) (fun x => .int .u16 x.2) (XP (w3.heap.size + 1) w3.heap.size PB B (bk q1 51 cs1 :: row 5 1 v lw.length (Z6 lw) :: bk p 60 #[v] :: M)) (fun o s W ⟨u, h⟩ => h.at 1 rfl) (fun o o' s W ⟨u, h⟩ => ⟨u, (h.ZQ.putOb o').ZQ⟩) (fun o => ⟨vb, (HS.out.enterLoop o).rot21⟩) ?_ ?_ (fun s => I.le s.1 /\ s.2.1 = l2 ++ YG ZH) ?_ ?_
 ·intro l x W K hK
  simp only [List.setIfInBounds_toArray, List.set_cons_succ, List.set_cons_zero] at hK ⊢
  gi_wp2
  exact hK
 ·rintro o s x W ⟨u, hs⟩ ⟨ok1, ok2, ok3⟩
  replace hs := hs.rot23
  generalize w3.heap.size = D at hs ⊢
  have HC := VL (Ws (I := s.1) B 60 u s.2.1 x.1 hs (by omega) ok2)
  clear hs
  simp only [List.setIfInBounds_toArray, List.set_cons_succ, List.set_cons_zero]
  gi_wp2_with fail
  refine ⟨trivial, rfl, ?_⟩
  refine (CallsIn.inRound _ (callsIn_wide.2 HC.out)).mono ?_
  rintro e w5 ⟨_, _, _, rfl, _, hs, rfl, rfl, u, rfl⟩
  have HC := VL (Ws (I := s.1) B 60 u _ x.2 hs (by rw [List.length_append, Zz]; omega) ok3)
  clear hs
  gi_wp2_with fail
  refine ⟨trivial, rfl, ?_⟩
  refine (CallsIn.inRound _ (callsIn_wide.2 HC.out)).mono ?_
  rintro e w6 ⟨_, _, _, rfl, _, hs, rfl, rfl, u, rfl⟩
  rw [List.append_assoc s.2.1] at hs
  have HS := VL hs.rot32
  clear hs
  gi_wp2
  exact ⟨u, HS.out⟩
 ·intro o hy W hx
  exact callsIn_wide.2 (pieces70 I (bk q1 51 cs1 :: row 5 1 v lw.length (Z6 lw) :: bk p 60 #[v] :: M) _ _ PB B o l2 ZH qA qz HCQ.out hqz HOK.out.ZH (by omega) (by have := HL2.out; omega) hy W hx)
 rintro o ⟨J0, lz, vz⟩ W ⟨hle0, hlz⟩ ⟨u, hs⟩
 simp only [] at hle0 hlz hs
 generalize w3.heap.size = D at hs ⊢
 clear HS
 have hs := hs.drop.drop.rot15
 have HCR := VL (HCR.out.mono hle0)
 have HCS := VL (HCS.out.mono hle0)
 have HCW := VL (HCW.out.mono hle0)
 have HLE0 := VL hle0
 rw [hlz] at hs
 obtain ⟨vb, hvb⟩ : ∃ z, z = u := ⟨_, rfl⟩
 rw [<- hvb] at hs
 obtain ⟨l3, e3⟩ : ∃ z, z = l2 ++ YG ZH := ⟨_, rfl⟩
 rw [<- e3] at hs
 have HL3 := VL (show l3.length <= 136 from by rw [e3, List.length_append]; have := HL2.out; have := WZ 32 ZH n3; omega)
 have HE3 := VL e3
 clear e3
 have HS := VL hs
 clear hs
 simp only [Exit.inBlock, Exit.then]
 obtain ⟨Zc, hf1, hl1⟩ := ZO.all (HS.out.at 2 rfl)
 rw [HC1.out] at Zc
 obtain ⟨hcb, hfb, hlb⟩ := (show ZO _ B 60 #[_] from HS.out.at 1 rfl).one
 go_upto_region 47 with fail
 go_upto_region 48 with fail
 clear Zc hf1 hl1 hcb hfb hlb
 go_loopw [160] (fun iv wr => ∃ i : Nat, i <= ZE.length /\ iv = .int .i64 i /\ Hid (∃ vb, St J0 (row 5 1 vb (l3 ++ (ZE.take i).flatMap YK).length (Z6 (l3 ++ (ZE.take i).flatMap YK)) :: bk B 60 #[vb] :: bk q1 51 cs1 :: row 5 1 v lw.length (Z6 lw) :: bk p 60 #[v] :: obk D (.deferred (some [])) :: M) wr)) (fun iv _ => ZE.length - (intOf iv).toNat)
 case atStart => exact ⟨0, by omega, rfl, vb, by simpa using HS.out⟩
 case round =>
  obtain ⟨i, hi, rfl, hh⟩ := hrel
  obtain ⟨vb, hs⟩ := hh.out
  have HS := VL hs
  clear hh hs
  by_cases Z0 : i < ZE.length
  ·skip
   have hsn := Yr YK ZE i Z0
   obtain ⟨g, o, rfl, ZK⟩ := flat_get (s := 7) (fun _ => rfl) HCR.out (by omega) (by decide)
   have hm := HOK.out.ZE _ (List.getElem_mem Z0)
   replace ZK : ∀ j, j < 7 -> wr.cell? ⟨g, o + i * 7 + j, none⟩ = (Yt ZE[i])[j]? := fun j hj => ZK _ _ HS.out i Z0 j hj
   obtain ⟨x, hxe⟩ : ∃ x, x = ZE[i] := ⟨_, rfl⟩
   rw [<- hxe] at ZK hm hsn
   have z0 : wr.cell? ⟨g, o + i * 7, none⟩ = some (.int .u32 x.src) := ZK 0 (by decide)
   have z1 : wr.cell? ⟨g, o + i * 7 + 1, none⟩ = some (.int .u8 x.lost) := ZK 1 (by decide)
   have z2 : wr.cell? ⟨g, o + i * 7 + 2, none⟩ = some (.int .u32 x.total) := ZK 2 (by decide)
   have z3 : wr.cell? ⟨g, o + i * 7 + 3, none⟩ = some (.int .u32 x.high) := ZK 3 (by decide)
   have z4 : wr.cell? ⟨g, o + i * 7 + 4, none⟩ = some (.int .u32 x.Xw) := ZK 4 (by decide)
   have z5 : wr.cell? ⟨g, o + i * 7 + 5, none⟩ = some (.int .u32 x.last) := ZK 5 (by decide)
   have z6 : wr.cell? ⟨g, o + i * 7 + 6, none⟩ = some (.int .u32 x.delay) := ZK 6 (by decide)
   obtain ⟨lb, e1⟩ : ∃ z, z = l3 ++ (ZE.take i).flatMap YK := ⟨_, rfl⟩
   have HL := VL (show lb.length <= 880 from by rw [e1, List.length_append]; have := HL3.out; have := Xl (f := YK) (s := 24) (n := 31) (fun x => by first | rfl | exact Za x) ZE i (by omega); omega)
   have hs := HS.out
   rw [<- e1] at hs
   have HSN := VL (And.intro e1 hsn)
   clear HS ZK hsn hxe e1
   have HS := VL hs
   clear hs
   have hs := HS.out.grow (.cells #[.int .u32 x.src, .int .u8 x.lost, .int .u32 x.total, .int .u32 x.high, .int .u32 x.Xw, .int .u32 x.last, .int .u32 x.delay] 65)
   have HC := VL (repW J0 (bk q1 51 cs1 :: row 5 1 v lw.length (Z6 lw) :: bk p 60 #[v] :: obk D (.deferred (some [])) :: M) _ B 60 vb lb x hm hs (by have := HL.out; omega))
   clear hs HS hm
   go_wp2_with fail
   go_at_call 54
   refine HC.out.mono ?_
   rintro e w2 ⟨_, _, _, rfl, _, hs, rfl, rfl, vb, rfl⟩
   rw [HSN.out.1, List.append_assoc, <- HSN.out.2] at hs
   have HS := VL hs
   clear hs HC HSN
   go_wp2
   go_roundw
   case rel => exact ⟨i + 1, by omega, by go_num, vb, HS.out⟩
   case measure => simp [intOf]; omega
  have hin : i = ZE.length := by omega
  have hs := HS.out
  rw [hin, List.take_length] at hs
  subst hin
  clear HS
  obtain ⟨l4, e4⟩ : ∃ z, z = l3 ++ ZE.flatMap YK := ⟨_, rfl⟩
  rw [<- e4] at hs
  have HL4 := VL (show l4.length <= 880 from by rw [e4, List.length_append]; have := HL3.out; have := YD (f := YK) (s := 24) (fun x => by first | rfl | exact Za x) ZE; omega)
  have HE4 := VL e4
  clear e4
  have HS := VL hs
  clear hs
  obtain ⟨Zc, hf1, hl1⟩ := ZO.all (HS.out.at 2 rfl)
  rw [HC1.out] at Zc
  obtain ⟨hcb, hfb, hlb⟩ := (show ZO _ B 60 #[_] from HS.out.at 1 rfl).one
  go_upto_region 53 with fail
  clear Zc hf1 hl1 hcb hfb hlb
  go_loopw [170] (fun iv wr => ∃ i : Nat, i <= ZG.length /\ iv = .int .i64 i /\ Hid (∃ vb, St J0 (row 5 1 vb (l4 ++ (ZG.take i).flatMap ZM).length (Z6 (l4 ++ (ZG.take i).flatMap ZM)) :: bk B 60 #[vb] :: bk q1 51 cs1 :: row 5 1 v lw.length (Z6 lw) :: bk p 60 #[v] :: obk D (.deferred (some [])) :: M) wr)) (fun iv _ => ZG.length - (intOf iv).toNat)
  case atStart => exact ⟨0, by omega, rfl, vb, by simpa using HS.out⟩
  case round =>
   obtain ⟨i, hi, rfl, hh⟩ := hrel
   obtain ⟨vb, hs⟩ := hh.out
   have HS := VL hs
   clear hh hs
   by_cases Z0 : i < ZG.length
   ·skip
    have hsn := Yr ZM ZG i Z0
    obtain ⟨g, o, rfl, ZK⟩ := flat_get (s := 1) (fun _ => rfl) HCS.out (by omega) (by decide)
    have hm := HOK.out.ZG _ (List.getElem_mem Z0)
    replace ZK : ∀ j, j < 1 -> wr.cell? ⟨g, o + i * 1 + j, none⟩ = (Xd ZG[i])[j]? := fun j hj => ZK _ _ HS.out i Z0 j hj
    obtain ⟨x, hxe⟩ : ∃ x, x = ZG[i] := ⟨_, rfl⟩
    rw [<- hxe] at ZK hm hsn
    have z0 : wr.cell? ⟨g, o + i, none⟩ = some (.int .u32 x) := by have := ZK 0 (by decide); simpa using this
    obtain ⟨lb, e1⟩ : ∃ z, z = l4 ++ (ZG.take i).flatMap ZM := ⟨_, rfl⟩
    have HL := VL (show lb.length <= 1004 from by rw [e1, List.length_append]; have := HL4.out; have := Xl (f := ZM) (s := 4) (n := 31) (fun x => by first | rfl | exact Za x) ZG i (by omega); omega)
    have hs := HS.out
    rw [<- e1] at hs
    have HSN := VL (And.intro e1 hsn)
    clear HS ZK hsn hxe e1
    have HS := VL hs
    clear hs
    have HC := VL (Xk (I := J0) B 60 vb lb x HS.out (by have := HL.out; omega) hm)
    clear HS hm
    go_wp2_with fail
    go_at_call 48
    refine HC.out.mono ?_
    rintro e w2 ⟨_, _, _, rfl, _, hs, rfl, rfl, vb, rfl⟩
    rw [HSN.out.1, List.append_assoc, <- HSN.out.2] at hs
    have HS := VL hs
    clear hs HC HSN
    go_wp2
    go_roundw
    case rel => exact ⟨i + 1, by omega, by go_num, vb, HS.out⟩
    case measure => simp [intOf]; omega
   have hin : i = ZG.length := by omega
   have hs := HS.out
   rw [hin, List.take_length] at hs
   subst hin
   clear HS
   obtain ⟨l5, e5⟩ : ∃ z, z = l4 ++ ZG.flatMap ZM := ⟨_, rfl⟩
   rw [<- e5] at hs
   have HL5 := VL (show l5.length <= 1004 from by rw [e5, List.length_append]; have := HL4.out; have := YD (f := ZM) (s := 4) (fun x => by first | rfl | exact Za x) ZG; omega)
   have HE5 := VL e5
   clear e5
   have HS := VL hs
   clear hs
   obtain ⟨Zc, hf1, hl1⟩ := ZO.all (HS.out.at 2 rfl)
   rw [HC1.out] at Zc
   obtain ⟨hcb, hfb, hlb⟩ := (show ZO _ B 60 #[_] from HS.out.at 1 rfl).one
   go_upto_region 58 with fail
   clear Zc hf1 hl1 hcb hfb hlb
   go_loopw [180] (fun iv wr => ∃ i : Nat, i <= ZB.length /\ iv = .int .i64 i /\ Hid (∃ vb, St J0 (row 5 1 vb (l5 ++ (ZB.take i).flatMap XU).length (Z6 (l5 ++ (ZB.take i).flatMap XU)) :: bk B 60 #[vb] :: bk q1 51 cs1 :: row 5 1 v lw.length (Z6 lw) :: bk p 60 #[v] :: obk D (.deferred (some [])) :: M) wr)) (fun iv _ => ZB.length - (intOf iv).toNat)
   case atStart => exact ⟨0, by omega, rfl, vb, by simpa using HS.out⟩
   case round =>
    obtain ⟨i, hi, rfl, hh⟩ := hrel
    obtain ⟨vb, hs⟩ := hh.out
    have HS := VL hs
    clear hh hs
    by_cases Z0 : i < ZB.length
    ·skip
     have hsn := Yr XU ZB i Z0
     obtain ⟨g, o, rfl, ZK⟩ := flat_get (s := 2) (fun _ => rfl) HCW.out (by omega) (by decide)
     have hm := HOK.out.ZB _ (List.getElem_mem Z0)
     replace ZK : ∀ j, j < 2 -> wr.cell? ⟨g, o + i * 2 + j, none⟩ = (WO ZB[i])[j]? := fun j hj => ZK _ _ HS.out i Z0 j hj
     obtain ⟨x, hxe⟩ : ∃ x, x = ZB[i] := ⟨_, rfl⟩
     rw [<- hxe] at ZK hm hsn
     have z0 : wr.cell? ⟨g, o + i * 2, none⟩ = some (.int .u32 x.src) := ZK 0 (by decide)
     have z1 : wr.cell? ⟨g, o + i * 2 + 1, none⟩ = some (.int .u8 x.seq) := ZK 1 (by decide)
     obtain ⟨lb, e1⟩ : ∃ z, z = l5 ++ (ZB.take i).flatMap XU := ⟨_, rfl⟩
     have HL := VL (show lb.length <= 1068 from by rw [e1, List.length_append]; have := HL5.out; have := Xl (f := XU) (s := 8) (n := 8) (fun x => by first | rfl | exact Za x) ZB i (by omega); omega)
     have hs := HS.out
     rw [<- e1] at hs
     have HSN := VL (And.intro e1 hsn)
     clear HS ZK hsn hxe e1
     have HS := VL hs
     clear hs
     have hs := (HS.out.alloc 68 #[.int .u32 x.src, .int .u8 x.seq]).Ya.ZQ
     obtain ⟨qw, hqw⟩ : ∃ q, q = wr.heap.size := ⟨_, rfl⟩
     rw [<- hqw] at hs
     have HQW := VL hqw
     clear hqw
     have HC := VL (Xk (I := J0) (M := bk qw 68 #[.int .u32 x.src, .int .u8 x.seq] :: bk q1 51 cs1 :: row 5 1 v lw.length (Z6 lw) :: bk p 60 #[v] :: obk D (.deferred (some [])) :: M) B 60 vb lb x.src hs (by have := HL.out; omega) hm.1)
     have HM := VL hm
     have hx2 := hm.2
     obtain ⟨hx3, hx4⟩ := hx2
     have hsq := hs
     clear hs HS hm
     go_upto_region 60 with fail
     rw [<- HQW.out]
     obtain ⟨hx5, hx6, hx7, hx8, hx9⟩ := (show ZO _ qw 68 #[.int .u32 x.src, .int .u8 x.seq] from hsq.at 2 rfl).two
     go_wp2_with fail
     go_at_call 48
     refine HC.out.mono ?_
     rintro e w2 ⟨_, _, _, rfl, _, hs, rfl, rfl, vb, rfl⟩
     clear hx5 hx6 hx7 hx8 hx9 hsq
     obtain ⟨hx5, hx6, hx7, hx8, hx9⟩ := (show ZO _ qw 68 #[.int .u32 x.src, .int .u8 x.seq] from hs.at 2 rfl).two
     obtain ⟨lc, hlc⟩ : ∃ z, z = lb ++ ZM x.src := ⟨_, rfl⟩
     rw [<- hlc] at hs
     have HC2 := VL (Xk (I := J0) B 60 vb lc (x.seq * 16777216) hs (by rw [hlc, List.length_append, Zy]; have := HL.out; omega) ⟨by omega, by omega⟩)
     have HLC := VL hlc
     clear hs hlc HC
     go_wp2_with fail
     go_at_call 48
     refine HC2.out.mono ?_
     rintro e w3 ⟨_, _, _, rfl, _, hs, rfl, rfl, vb, rfl⟩
     rw [HLC.out, List.append_assoc lb] at hs
     have HC := HC2
     clear HC2 HLC
     replace hs : St J0 (row 5 1 vb (lb ++ XU x).length (Z6 (lb ++ XU x)) :: bk B 60 #[vb] :: bk q1 51 cs1 :: row 5 1 v lw.length (Z6 lw) :: bk p 60 #[v] :: obk D (.deferred (some [])) :: M) w3 := hs.ZQ.Ya.drop
     clear hx5 hx6 hx7 hx8 hx9
     rw [HSN.out.1, List.append_assoc, <- HSN.out.2] at hs
     have HS := VL hs
     clear hs HC HSN
     go_wp2
     go_roundw
     case rel => exact ⟨i + 1, by omega, by go_num, vb, HS.out⟩
     case measure => simp [intOf]; omega
    have hin : i = ZB.length := by omega
    have hs := HS.out
    rw [hin, List.take_length] at hs
    subst hin
    clear HS
    obtain ⟨l6, e6⟩ : ∃ z, z = l5 ++ ZB.flatMap XU := ⟨_, rfl⟩
    rw [<- e6] at hs
    have HL6 := VL (show l6.length <= 1068 from by rw [e6, List.length_append]; have := HL5.out; have := YD (f := XU) (s := 8) (fun x => by first | rfl | exact Za x) ZB; omega)
    have HE6 := VL e6
    clear e6
    have HS := VL hs
    clear hs
    obtain ⟨Zc, hf1, hl1⟩ := ZO.all (HS.out.at 2 rfl)
    rw [HC1.out] at Zc
    obtain ⟨hcb, hfb, hlb⟩ := (show ZO _ B 60 #[_] from HS.out.at 1 rfl).one
    have HC := VL (evenC J0 _ _ B 60 vb l6 HS.out (by have := HL6.out; omega))
    go_wp2_with fail
    go_at_call 55
    refine HC.out.mono ?_
    clear Zc hf1 hl1 hcb hfb hlb
    clear HS HC vb
    rintro e w2 ⟨_, _, _, rfl, _, hs, rfl, rfl, vb, rfl⟩
    obtain ⟨lb, hlb⟩ : ∃ z, z = YH l6 := ⟨_, rfl⟩
    rw [<- hlb] at hs
    have HLB := VL (show lb.length <= 1071 from by rw [hlb]; have := HL6.out; have := Xr l6; omega)
    have HEB := VL hlb
    clear hlb
    have hs := hs.rot23
    have hlow := X7 HLOW.out.1 HLOW.out.2
    have hlo := HLOW.out
    simp only [XV, Z8, if_true, if_false, Int.reduceEq, Int.reduceNeg, Int.reduceLT] at hlow hlo
    obtain ⟨hlo1, hlo2⟩ := hlo
    have HC := VL (wU8 (I := J0) p 60 v lw (128 + 1) hs (by omega) (by omega))
    clear hs
    go_wp2_with fail
    go_at_call 49
    refine HC.out.mono ?_
    clear HC
    rintro e w2 ⟨_, _, _, rfl, _, hs, rfl, rfl, v, rfl⟩
    have HC := VL (wU8 (I := J0) p 60 v _ 205 hs (by rw [List.length_append]; show _ + 1 <= _; omega) (by decide))
    clear hs hlow hlo1 hlo2
    go_wp2_with fail
    go_at_call 49
    refine HC.out.mono ?_
    clear HC
    rintro e w2 ⟨_, _, _, rfl, _, hs, rfl, rfl, v, rfl⟩
    obtain ⟨lx, hlx⟩ : ∃ z, z = lw ++ [byteOf (128 + 1)] ++ [byteOf 205] := ⟨_, rfl⟩
    rw [<- hlx] at hs
    have hlxl : lx.length = lw.length + 2 := by rw [hlx]; simp
    have HLX := VL hlx
    clear hlx
    have h5 := HLB.out
    have HC := VL (Ws (I := J0) p 60 v lx ((lb.length / 4 : Nat) : Int) hs (by omega) ⟨by omega, by omega⟩)
    obtain ⟨A, c, rfl⟩ := ZW (show World.ownsRow _ 0 5 1 vb lb.length (Z6 lb) from hs.at 2 rfl)
    obtain ⟨hcb, hfb, hlb⟩ := (show ZO _ B 60 #[_] from hs.at 3 rfl).one
    clear hs
    go_wp2_with fail
    go_at_call 52
    refine HC.out.mono ?_
    clear HC hcb hfb hlb
    rintro e w2 ⟨_, _, _, rfl, _, hs, rfl, rfl, v, rfl⟩
    have hs := hs.rot32
    obtain ⟨J, Z5, hs, hA⟩ := hs.ZR
    have hs := hs.X4
    obtain ⟨hcb, hfb, hlb⟩ := (show ZO _ B 60 #[_] from hs.at 2 rfl).one
    obtain ⟨ly, hly⟩ : ∃ z, z = lx ++ Zi ((lb.length / 4 : Nat) : Int) := ⟨_, rfl⟩
    rw [<- hly] at hs
    have hlyl : ly.length = lx.length + 2 := by rw [hly, List.length_append, Zz]
    have HLY := VL hly
    have HC := VL (Wt (I := J) p 60 v ly A c lb hs (by omega) (fun w2 N h => Zq.src (e := 5) (show Zq J A lb from hA) h Try.underlying24 c))
    have HLE := VL Z5
    clear hs hly Z5 hA
    go_wp2_with fail
    go_at_call 50
    refine HC.out.mono ?_
    rintro e w2 ⟨_, _, _, rfl, _, hs, rfl, rfl, v, rfl⟩
    have HS := VL hs.drop23
    clear hs HC
    go_wp2
    refine ⟨by simp, .inl ⟨_, _, rfl, run_takeDeferred (show (World.heap _)[D]? = some (.deferred (some [])) from HS.out.at 2 rfl), ?_⟩⟩
    replace HS := VL (HS.out.Ya.putOb (.deferred none)).Ya.ZQ.Ya.drop
    refine ⟨_, results_none rfl _ _ _, ?_⟩
    refine YR.mk (HLE0.out.trans HLE.out) HS.out ⟨rfl, v, ?_⟩
    have hb : l6 = Zu (⟨5, ZA, ZC, ZN, ZP, ZI, ZJ, ZE, name, ZG, ZH, base, ref, count, ZF, ZB⟩ : Pk) := by
     rw [HE6.out, HE5.out, HE4.out, HE3.out, HE2.out, HE1.out, HE0.out]
     simp [Zu, Xf, Wl]
    have hlb2 : lb = YH (Zu (⟨5, ZA, ZC, ZN, ZP, ZI, ZJ, ZE, name, ZG, ZH, base, ref, count, ZF, ZB⟩ : Pk)) := by rw [HEB.out, hb]
    have he : lp ++ ZV (⟨5, ZA, ZC, ZN, ZP, ZI, ZJ, ZE, name, ZG, ZH, base, ref, count, ZF, ZB⟩ : Pk) = ly ++ lb := by
     unfold ZV
     rw [<- hlb2, HLY.out, HLX.out, <- HLW.out]
     simp [XV, Z8]
    rw [he]
def okM (N : Nat) (s : Ms) (x : Int × Int) : Prop := s.n < N /\ s.Wz.length <= 2 * s.n /\ s.far.length <= 2 * s.n /\ (0 <= s.ch /\ s.ch <= 65535) /\ (0 <= x.1 /\ x.1 <= 2)
theorem Xg (a : Int) : 0 <= YC a /\ YC a <= 2 := by
 unfold YC
 repeat' split
 all_goals decide
theorem stepM_ok {N : Nat} {s : Ms} {x : Int × Int} (h : okM N s x) : (Y2 N s x).n = s.n + 1 /\ (Y2 N s x).Wz.length <= 2 * (s.n + 1) /\ (Y2 N s x).far.length <= 2 * (s.n + 1) /\ (0 <= (Y2 N s x).ch /\ (Y2 N s x).ch <= 65535) := by
 obtain ⟨_, h1, h2, h3, _⟩ := h
 refine ⟨rfl, ?_, ?_, ?_⟩
 ·show (if XH N s then s.Wz ++ Zi _ else s.Wz).length <= _
  split
  ·rw [List.length_append, Zz]; omega
  omega
 ·show (if x.1 = 1 then s.far ++ [byteOf (x.2 % 256)] else if x.1 = 2 then s.far ++ Zi (x.2 % 65536) else s.far).length <= _
  repeat' split
  ·rw [List.length_append]; show _ + 1 <= _; omega
  ·rw [List.length_append, Zz]; omega
  omega
 show 0 <= (if XH N s then 0 else chM s x.1) /\ (if XH N s then 0 else chM s x.1) <= 65535
 split
 ·decide
 exact X3 _ _ _ rfl
theorem foldM_ok (N : Nat) : ∀ (l : List Int), l.length <= N -> ((l.map XN).foldl (Y2 N) ms0).n = l.length /\ ((l.map XN).foldl (Y2 N) ms0).Wz.length <= 2 * l.length /\ ((l.map XN).foldl (Y2 N) ms0).far.length <= 2 * l.length /\ (0 <= ((l.map XN).foldl (Y2 N) ms0).ch /\ ((l.map XN).foldl (Y2 N) ms0).ch <= 65535) := by
 intro l
 induction hk : l.length generalizing l with
 | zero =>
  intro _
  have : l = [] := List.length_eq_zero_iff.1 hk
  subst this
  exact ⟨rfl, Nat.le_refl _, Nat.le_refl _, (by decide : (0 : Int) <= 0), (by decide : (0 : Int) <= 65535)⟩
 | succ k ih =>
  intro hN
  have hne : l ≠ [] := by intro e; rw [e] at hk; cases hk
  obtain ⟨r, x, rfl⟩ : ∃ r x, l = r ++ [x] := ⟨l.dropLast, l.getLast hne, (List.dropLast_concat_getLast hne).symm⟩
  have hr : r.length = k := by rw [List.length_append] at hk; simpa using hk
  obtain ⟨h1, h2, h3, h4⟩ := ih r hr (by omega)
  rw [List.map_append, List.foldl_append]
  have := stepM_ok (N := N) (s := (r.map XN).foldl (Y2 N) ms0) (x := XN x) ⟨by omega, by omega, by omega, h4, Xg x⟩
  rw [h1] at this
  exact this
theorem okM_all (l : List Int) (k : Nat) (h : k < l.length) : okM l.length (((l.take k).map XN).foldl (Y2 l.length) ms0) (XN l[k]) := by
 have hk : (l.take k).length = k := by rw [List.length_take]; omega
 obtain ⟨h1, h2, h3, h4⟩ := foldM_ok l.length (l.take k) (by omega)
 rw [hk] at h1 h2 h3
 exact ⟨by omega, by omega, by omega, h4, Xg _⟩
theorem St.ord7 {I : Zh} {M : List Zt} {w : World} {u P C N F r b : Zt} (h : St I (u :: P :: C :: N :: F :: r :: b :: M) w) : St I (r :: b :: u :: F :: N :: C :: P :: M) w :=
 h.perm (List.Perm.append_right M ((List.perm_append_comm (l₁ := [u, P, C, N, F]) (l₂ := [r, b])).trans ((List.reverse_perm [P, C, N, F]).symm.append_left [r, b, u])))
theorem St.rot27 {I : Zh} {M : List Zt} {w : World} {a b c d e f g i j : Zt} (h : St I (a :: b :: c :: d :: e :: f :: g :: i :: j :: M) w) : St I (c :: d :: e :: f :: g :: i :: j :: a :: b :: M) w :=
 h.perm (List.Perm.append_right M (List.perm_append_comm (l₁ := [a, b]) (l₂ := [c, d, e, f, g, i, j])))
theorem St.up6 {I : Zh} {M : List Zt} {w : World} {a b c d e f x : Zt} (h : St I (a :: b :: c :: d :: e :: f :: x :: M) w) : St I (x :: a :: b :: c :: d :: e :: f :: M) w :=
 h.perm (List.Perm.append_right M (List.perm_append_comm (l₁ := [a, b, c, d, e, f]) (l₂ := [x])))
theorem St.up7 {I : Zh} {M : List Zt} {w : World} {a b c d e f g x : Zt} (h : St I (a :: b :: c :: d :: e :: f :: g :: x :: M) w) : St I (x :: a :: b :: c :: d :: e :: f :: g :: M) w :=
 h.perm (List.Perm.append_right M (List.perm_append_comm (l₁ := [a, b, c, d, e, f, g]) (l₂ := [x])))
theorem St.dn7 {I : Zh} {M : List Zt} {w : World} {a b c d e f g x : Zt} (h : St I (x :: a :: b :: c :: d :: e :: f :: g :: M) w) : St I (a :: b :: c :: d :: e :: f :: g :: x :: M) w :=
 h.perm (List.Perm.append_right M (List.perm_append_comm (l₁ := [x]) (l₂ := [a, b, c, d, e, f, g])))
theorem St.out9 {I : Zh} {M : List Zt} {w : World} {a b c d n k q l D x y z : Zt} (h : St I (a :: b :: c :: d :: n :: k :: q :: l :: D :: x :: y :: z :: M) w) : St I (a :: b :: c :: d :: x :: y :: z :: D :: M) w :=
 ((h.perm (List.Perm.append_right M (List.perm_append_comm (l₁ := [a, b, c, d]) (l₂ := [n, k, q, l, D, x, y, z])))).drop.drop.drop.drop).perm (List.Perm.append_right M ((List.perm_append_comm (l₁ := [D, x, y, z]) (l₂ := [a, b, c, d])).trans ((List.perm_append_comm (l₁ := [D]) (l₂ := [x, y, z])).append_left [a, b, c, d])))
theorem St.dn6 {I : Zh} {M : List Zt} {w : World} {f a b x y z D : Zt} (h : St I (f :: a :: b :: x :: y :: z :: D :: M) w) : St I (a :: b :: x :: y :: z :: D :: M) w := h.drop
theorem St.set5 {I : Zh} {M : List Zt} {w : World} {a b c d e : Zt} {g t : Nat} {cs : Array Value} (h : St I (a :: b :: c :: d :: e :: bk g t cs :: M) w) (i : Nat) (u : Value) : St I (a :: b :: c :: d :: e :: bk g t (cs.setIfInBounds i u) :: M) (w.setCell ⟨g, i, none⟩ u) :=
 (St.set (h.perm (List.Perm.append_right M (List.perm_append_comm (l₁ := [a, b, c, d, e]) (l₂ := [bk g t cs])))) i u).perm (List.Perm.append_right M (List.perm_append_comm (l₁ := [bk g t (cs.setIfInBounds i u)]) (l₂ := [a, b, c, d, e])))
section
variable {P : Program} {ops : Array Oper} {Q : Exit -> Act -> World -> Prop} {md : Region.Mode} {S : World -> Prop}
def allIn (listed : Array Bool) : Bool := listed.toList.all id
theorem allIn_no {listed : Array Bool} {m : Nat} (h : listed.getD m true = false) : allIn listed = false := by
 have hm : m < listed.size := by
  rcases Nat.lt_or_ge m listed.size with h' | h'
  ·exact h'
  simp [Array.getElem?_eq_none h'] at h
 have h2 : listed[m] = false := by simpa [hm] using h
 unfold allIn
 rw [List.all_eq_false]
 exact ⟨listed[m], by simp, by simp [h2]⟩
def wpAnyL (P : Program) (md : Region.Mode) (ops : Array Oper) (Q : Exit -> Act -> World -> Prop) (S : World -> Prop) : Nat -> Array Bool -> Act -> World -> Prop
 | 0, listed, a, w => Region.ready md ops listed = [] /\ Q .normal a w
 | fuel + 1, listed, a, w =>
  (Region.ready md ops listed = [] -> Q .normal a w) /\
  ∀ i ∈ Region.ready md ops listed, wpOp P ops Q i (fun a' w' => (allIn (listed.setIfInBounds i true) = true \/ S w') /\ wpAnyL P md ops Q S fuel (listed.setIfInBounds i true) a' w') a w
theorem wpAny_of_L : ∀ (fuel : Nat) (listed : Array Bool) (a : Act) (w : World), wpAnyL P md ops Q S fuel listed a w -> wpAny P md ops Q fuel listed a w
 | 0, _, _, _, h => h
 | fuel + 1, _, _, _, h => ⟨h.1, fun i hi => wpOp_mono (fun a' w' h' => wpAny_of_L fuel _ a' w' h'.2) (h.2 i hi)⟩
def waits (md : Region.Mode) (ops : Array Oper) (listed : Array Bool) (i m : Nat) : Bool :=
 (m != i) && (!listed.getD m true && (match ops[m]? with | some o => o.after.toList.any (fun e => Region.binds md e && e.on == i) | none => false))
theorem waits_spec {listed : Array Bool} {i m : Nat} (h : waits md ops listed i m = true) : m ≠ i /\ listed.getD m true = false /\ ∃ o e, ops[m]? = some o /\ e ∈ o.after /\ Region.binds md e = true /\ e.on = i := by
 unfold waits at h
 rw [Bool.and_eq_true, Bool.and_eq_true] at h
 obtain ⟨h1, h2, h3⟩ := h
 refine ⟨by simpa using h1, by simpa using h2, ?_⟩
 cases ho : ops[m]? with
 | none => rw [ho] at h3; cases h3
 | some o =>
  rw [ho] at h3
  simp only [List.any_eq_true, Bool.and_eq_true, beq_iff_eq] at h3
  obtain ⟨e, he, hb, hon⟩ := h3
  exact ⟨o, e, rfl, by simpa using he, hb, hon⟩
theorem wpAnyL_first {i m : Nat} {oi : Oper} {v : Value} (hi : ops[i]? = some oi) (hsel : ∀ (j : Nat) (o : Oper) cs b, ops[j]? = some o -> o.op ≠ .select cs b)
  (hQ : ∀ c a w, Q (.panic c) (a.put oi.dst v) w -> Q (.panic c) a w) (hmi : m ≠ i) (hm : ∃ o e, ops[m]? = some o /\ e ∈ o.after /\ Region.binds md e = true /\ e.on = i) :
  ∀ (fuel : Nat) (listed : Array Bool) (a : Act) (w : World),
   (∀ j oj, ops[j]? = some oj -> j ≠ i -> listed.getD j true = false -> (∀ e ∈ oj.after, Region.binds md e = true -> e.on ≠ i) -> oi.apart ops oj = true) ->
   i ∈ Region.ready md ops listed -> YieldsIf P ops S oi v a -> S w -> listed.getD m true = false ->
   wpAnyL P md ops Q S fuel (listed.setIfInBounds i true) (a.put oi.dst v) w -> wpAnyL P md ops Q S (fuel + 1) listed a w := by
 intro fuel
 induction fuel with
 | zero =>
  intro listed a w _ hr hy hS _ H
  refine ⟨fun h => (by rw [h] at hr; cases hr), fun j hj => ?_⟩
  by_cases hji : j = i
  ·subst hji; exact hy.wpOp hi hS ⟨.inr hS, H⟩
  have := ready_mono hj hji
  rw [H.1] at this
  cases this
 | succ fuel ih =>
  intro listed a w hfree hr hy hS hun0 H
  refine ⟨fun h => (by rw [h] at hr; cases hr), fun j hj => ?_⟩
  by_cases hji : j = i
  ·subst hji; exact hy.wpOp hi hS ⟨.inr hS, H⟩
  have h1 := H.2 j (ready_mono hj hji)
  obtain ⟨hjun, oj, hoj, hall⟩ := mem_ready.1 hj
  have hnot : ∀ e ∈ oj.after, Region.binds md e = true -> e.on ≠ i := fun e he hb heq => by
   have h1 := hall e he hb
   have h0 := (mem_ready.1 hr).1
   rw [heq] at h1
   rcases Nat.lt_or_ge i listed.size with h' | h'
   ·simp [h'] at h0 h1; rw [h0] at h1; cases h1
   simp [Array.getElem?_eq_none h'] at h1
  have hjm : j ≠ m := fun e => by
   subst e
   obtain ⟨o, e, ho, he, hb, hon⟩ := hm
   rw [hoj] at ho
   injection ho with ho
   subst ho
   exact hnot e he hb hon
  have hm2 : (listed.setIfInBounds j true).getD m true = false := by rw [getD_set_ne true hjm]; exact hun0
  have hm3 : ((listed.setIfInBounds i true).setIfInBounds j true).getD m true = false := by rw [getD_set_ne true hjm, getD_set_ne true (Ne.symm hmi)]; exact hun0
  have h2 := wpOp_putIf hoj (hfree j oj hoj hji hjun hnot) (fun cs b => hsel i oi cs b hi) (fun cs b => hsel j oj cs b hoj) hQ hy h1
  have hfree' : ∀ k ok, ops[k]? = some ok -> k ≠ i -> (listed.setIfInBounds j true).getD k true = false ->
    (∀ e ∈ ok.after, Region.binds md e = true -> e.on ≠ i) -> oi.apart ops ok = true := fun k ok hk hki hun hno => by
   refine hfree k ok hk hki ?_ hno
   by_cases hjk : j = k
   ·subst hjk; exact hjun
   rw [getD_set_ne true hjk] at hun; exact hun
  refine wpOp_mono (fun a' w' h3 => ?_) h2
  have hS' : S w' := by
   rcases h3.2.1 with h | h
   ·rw [allIn_no hm3] at h; cases h
   exact h
  refine ⟨.inr hS', ih (listed.setIfInBounds j true) a' w' hfree' (ready_mono hr (Ne.symm hji)) h3.1 hS' hm2 ?_⟩
  rw [Array.setIfInBounds_comm _ _ hji]
  exact h3.2.2
theorem wpAnyL_take {i : Nat} (m : Nat) {oi : Oper} {v : Value} {fuel : Nat} {listed : Array Bool} {a : Act} {w : World} (hi : ops[i]? = some oi)
  (hs : Region.noSelect ops = true) (hf : Region.free md ops listed i = true) (hr : (Region.ready md ops listed).contains i = true) (hm : waits md ops listed i m = true)
  (hQ : ∀ c a w, Q (.panic c) (a.put oi.dst v) w -> Q (.panic c) a w) (hy : YieldsIf P ops S oi v a) (hS : S w)
  (h : wpAnyL P md ops Q S fuel (listed.setIfInBounds i true) (a.put oi.dst v) w) : wpAnyL P md ops Q S (fuel + 1) listed a w :=
 wpAnyL_first hi (Region.noSelect_spec hs) hQ (waits_spec hm).1 (waits_spec hm).2.2 fuel listed a w (Region.free_spec hi hf) (by simpa using hr) hy hS (waits_spec hm).2.1 h
theorem wt (i m : Nat) {oi : Oper} {v : Value} {fuel : Nat} {listed : Array Bool} {a : Act} {w : World} (hi : ops.toList[i]? = some oi)
  (hb : (Region.noSelect ops && (Region.free md ops listed i && ((Region.ready md ops listed).contains i && waits md ops listed i m))) = true)
  (hQ : ∀ c a w, Q (.panic c) (a.put oi.dst v) w -> Q (.panic c) a w) (hw : Region.wanted oi (yielded ops a.tmps) = true) (hS : S w)
  (hy : ∀ w, S w -> (execOp a.eval oi).run P w = .ok (.value v) w)
  (h : wpAnyL P md ops Q S fuel (listed.setIfInBounds i true) (a.put oi.dst v) w) : wpAnyL P md ops Q S (fuel + 1) listed a w := by
 simp only [Bool.and_eq_true] at hb
 exact wpAnyL_take (i := i) m (by simpa using hi) hb.1 hb.2.1 hb.2.2.1 hb.2.2.2 hQ (.inl ⟨hw, hy⟩) hS h
theorem wpAnyL_done {listed : Array Bool} {a : Act} {w : World} (hr : Region.ready md ops listed = []) (h : Q .normal a w) :
  ∀ fuel, wpAnyL P md ops Q S fuel listed a w
 | 0 => ⟨hr, h⟩
 | _ + 1 => ⟨fun _ => h, by rw [hr]; simp⟩
theorem ZU {i : Nat} {o : Oper} {fuel : Nat} {listed : Array Bool} {a : Act} {w : World} (hr : Region.ready md ops listed = [i]) (ho : ops[i]? = some o)
  (h : ∀ K : Act -> World -> Prop, Hid (∀ a w, S w -> (S w -> wpAnyL P md ops Q S fuel (listed.setIfInBounds i true) a w) -> K a w) -> if Region.wanted o (yielded ops a.tmps) = true then Oper.wp P o a w K Q else K (a.put o.dst undef) w) :
  wpAnyL P md ops Q S (fuel + 1) listed a w := by
 refine ⟨fun h0 => (by rw [hr] at h0; cases h0), fun j hj => ?_⟩
 rw [hr] at hj
 obtain hji := List.mem_singleton.1 hj
 subst hji
 have h1 := h (fun a' w' => (allIn (listed.setIfInBounds j true) = true \/ S w') /\ wpAnyL P md ops Q S fuel (listed.setIfInBounds j true) a' w') (VL (fun a' w' h1 h2 => ⟨.inr h1, h2 h1⟩))
 unfold wpOp
 simp only [ho]
 split
 ·rename_i hw
  rw [if_pos hw] at h1
  exact .inl h1
 rename_i hw
 rw [if_neg hw] at h1
 exact h1
theorem Yi {i : Nat} {o : Oper} {fuel : Nat} {listed : Array Bool} {a : Act} {w : World} (hr : Region.ready md ops listed = [i]) (ho : ops[i]? = some o)
  (hr2 : Region.ready md ops (listed.setIfInBounds i true) = []) (hall : allIn (listed.setIfInBounds i true) = true)
  (h : ∀ K : Act -> World -> Prop, Hid (∀ a w, Q .normal a w -> K a w) -> if Region.wanted o (yielded ops a.tmps) = true then Oper.wp P o a w K Q else K (a.put o.dst undef) w) :
  wpAnyL P md ops Q S (fuel + 1) listed a w := by
 refine ⟨fun h0 => (by rw [hr] at h0; cases h0), fun j hj => ?_⟩
 rw [hr] at hj
 obtain hji := List.mem_singleton.1 hj
 subst hji
 have h1 := h (fun a' w' => (allIn (listed.setIfInBounds j true) = true \/ S w') /\ wpAnyL P md ops Q S fuel (listed.setIfInBounds j true) a' w') (VL (fun a' w' h1 => ⟨.inl hall, wpAnyL_done hr2 h1 fuel⟩))
 unfold wpOp
 simp only [ho]
 split
 ·rename_i hw
  rw [if_pos hw] at h1
  exact .inl h1
 rename_i hw
 rw [if_neg hw] at h1
 exact h1
theorem YQ {id : Nat} {a : Act} {w : World} (hm : P.follows .mixedOrders = true) (hS : S w.drew)
  (h : S w.drew -> wpAnyL P .any ops Q S ops.size (Array.replicate ops.size false) a w.drew) : (Code.region id ops true).wp P Q a w :=
 wp_region_any hm (wpAny_of_L _ _ _ _ (h hS))
end
def roundQ (Q : Exit -> Act -> World -> Prop) : Exit -> Act -> World -> Prop
 | .normal, a, w => Q .normal a w
 | _, _, _ => False
def noDefer (ops : Array Oper) : Bool := ops.all fun o => match o.op with | .defer _ => false | _ => true
theorem noDefer_spec {ops : Array Oper} (h : noDefer ops = true) (i : Nat) (o : Oper) (hi : ops[i]? = some o) (c : Call) : o.op ≠ Op.defer c := by
 intro e
 have := Array.all_eq_true'.1 h o (Array.mem_of_getElem? hi)
 rw [e] at this
 cases this
section
variable {P : Program} {ops : Array Oper} {Q : Exit -> Act -> World -> Prop} {l n : Nat} {md : Region.Mode}
theorem op_round {o : Oper} {a : Act} {w : World} {K : Act -> World -> Prop} (hnd : ∀ c, o.op ≠ Op.defer c) (h : o.wp P a w K (roundQ Q)) : o.wpIn (Fence.wide.inRound l) n P a w K Q := by
 refine ⟨fun _ _ => trivial, ?_⟩
 rw [Oper.semAt_eq _ _ _ hnd]
 unfold Oper.wp at h
 generalize (execOp a.eval o).run P w = r at h ⊢
 cases r with
 | ok x w' =>
  cases x with
  | value v => exact h
  | skip => exact h
  | defer d => exact h
  | enter f args =>
   refine ⟨(fun hd => by cases hd), CallsIn.inRound l (callsIn_wide.2 (Calls.mono h fun e w'' he => ?_))⟩
   cases e with
   | returned v => exact he
   | panicked c => exact he.elim
   | outgrown => obtain ⟨_, _, he⟩ := he; exact he.elim
  | row r args => exact ⟨(fun hd => by cases hd), fun c cs _ => Exists.elim (h c cs) fun v hv => Exists.elim hv fun w' hw => ⟨v, w', hw.1, stepsIn_wide.2 hw.2⟩⟩
  | _ => exact h.elim
 | halt x w' =>
  cases x with
  | panic v => exact h.elim
  | _ => exact h.elim
theorem wpOp_round (hnd : ∀ (i : Nat) (o : Oper), ops[i]? = some o -> ∀ c, o.op ≠ Op.defer c) {i : Nat} {a : Act} {w : World} {K : Act -> World -> Prop} (h : wpOp P ops (roundQ Q) i K a w) : wpOpIn (Fence.wide.inRound l) n P ops Q i K a w := by
 unfold wpOp at h
 unfold wpOpIn
 cases ho : ops[i]? with
 | none => rw [ho] at h; exact h
 | some o =>
  rw [ho] at h
  simp only at h ⊢
  split
  ·rename_i hw
   rw [if_pos hw] at h
   rcases h with h | ⟨_, _, _, h⟩
   ·exact op_round (hnd i o ho) h
   exact h.elim
  rename_i hw
  rw [if_neg hw] at h
  exact ⟨fun _ _ => trivial, h⟩
theorem wpAny_round (hnd : ∀ (i : Nat) (o : Oper), ops[i]? = some o -> ∀ c, o.op ≠ Op.defer c) : ∀ (fuel : Nat) (listed : Array Bool) (a : Act) (w : World), wpAny P md ops (roundQ Q) fuel listed a w -> wpAnyIn (Fence.wide.inRound l) n P md ops Q fuel listed a w := by
 intro fuel
 induction fuel with
 | zero => intro listed a w h; exact ⟨h.1, h.2⟩
 | succ fuel ih =>
  intro listed a w h
  exact ⟨fun h0 => h.1 h0, fun i hi => wpOpIn_mono (fun a w => ih _ a w) (wpOp_round hnd (h.2 i hi))⟩
theorem region_round {id : Nat} {a : Act} {w : World} (hm : P.follows .mixedOrders = true) (hnd : ∀ (i : Nat) (o : Oper), ops[i]? = some o -> ∀ c, o.op ≠ Op.defer c)
  (h : wpAny P .any ops (roundQ Q) ops.size (Array.replicate ops.size false) a { w with drawn := w.drawn + 1 }) : (Code.region id ops true).wpIn (Fence.wide.inRound l) n P Q a w :=
 wpIn_region_any hm (wpAny_round hnd _ _ _ _ h)
theorem region_last_round {S : World -> Prop} {id : Nat} {a : Act} {w : World} (hm : P.follows .mixedOrders = true) (hnd : noDefer ops = true) (hS : S w.drew)
  (h : S w.drew -> wpAnyL P .any ops (roundQ Q) S ops.size (Array.replicate ops.size false) a w.drew) : (Code.region id ops true).wpIn (Fence.wide.inRound l) n P Q a w :=
 region_round hm (noDefer_spec hnd) (wpAny_of_L _ _ _ _ (h hS))
end
end Go.Proofs.Ytddopbbmgpnjjaa
