/- part. -/
import Derived.Test.YtddopbbmgpnjjaaZT09
namespace Go.Proofs.Ytddopbbmgpnjjaa
set_option linter.unusedSimpArgs false
open Go.RowKit
set_option maxRecDepth 100000 in
set_option maxHeartbeats 40000000 in
theorem write3 (I : Zh) (M : List Zt) (w : World) (ZA : Int) (ZC : Int) (ZN : Int) (ZP : Int) (ZI : Int) (ZJ : Int) (base : Int) (ref : Int) (count : Int) (name : ByteArray) (ZE : List Rp) (ZG ZH ZF : List Int) (ZB : List Wn) (rA : Option Addr) (rz : Nat) (sA : Option Addr) (sz : Nat) (qA : Option Addr) (qz : Nat) (aA : Option Addr) (az : Nat) (wA : Option Addr) (wz : Nat) (cr : Cells I rA (flat Yt ZE)) (cs : Cells I sA (flat Xd ZG)) (cq : Cells I qA (flat Yp ZH)) (ca : Cells I aA (flat XC ZF)) (cw : Cells I wA (flat WO ZB)) (p : Nat) (v : Value) (lp : List UInt8) (hok : Y6 (⟨3, ZA, ZC, ZN, ZP, ZI, ZJ, ZE, name, ZG, ZH, base, ref, count, ZF, ZB⟩ : Pk)) (hg : Good (⟨3, ZA, ZC, ZN, ZP, ZI, ZJ, ZE, name, ZG, ZH, base, ref, count, ZF, ZB⟩ : Pk)) (hl0 : lp.length <= 70368744170000) (ZX : St I (row 5 1 v lp.length (Z6 lp) :: bk p 60 #[v] :: M) w) :
  Calls Try.prog 21 #[.agg #[.int .i64 3, .int .u32 ZA, .int .u32 ZC, .int .u64 ZN, .int .u32 ZP, .int .u32 ZI, .int .u32 ZJ, .slice rA ZE.length rz, .string name, .slice sA ZG.length sz, .slice qA ZH.length qz, .int .u16 base, .int .u32 ref, .int .u8 count, .slice aA ZF.length az, .slice wA ZB.length wz], .pointer (some ⟨p, 0, none⟩)] w (YR I (fun v' _ M' => Wrote M p 60 (lp ++ ZV (⟨3, ZA, ZC, ZN, ZP, ZI, ZJ, ZE, name, ZG, ZH, base, ref, count, ZF, ZB⟩ : Pk)) v' M')) := by
 have ZY := ZX.alloc 51 #[.int .i64 3, .int .u32 ZA, .int .u32 ZC, .int .u64 ZN, .int .u32 ZP, .int .u32 ZI, .int .u32 ZJ, .slice rA ZE.length rz, .string name, .slice sA ZG.length sz, .slice qA ZH.length qz, .int .u16 base, .int .u32 ref, .int .u8 count, .slice aA ZF.length az, .slice wA ZB.length wz]
 have HOK := VL hok
 obtain ⟨n1, n2, n3, n4, n5, n6⟩ := Y0 hg
 have HLOW := VL (XB hg)
 simp only [] at n1 n2 n3 n4 n5 n6
 have HCR := VL cr
 have HCS := VL cs
 have HCW := VL cw
 have HCQ := VL cq
 have HCA := VL ca
 clear cr cs cq ca cw
 have HW := VL (VD 3 (w.alloc (.cells #[.int .i64 3, .int .u32 ZA, .int .u32 ZC, .int .u64 ZN, .int .u32 ZP, .int .u32 ZI, .int .u32 ZJ, .slice rA ZE.length rz, .string name, .slice sA ZG.length sz, .slice qA ZH.length qz, .int .u16 base, .int .u32 ref, .int .u8 count, .slice aA ZF.length az, .slice wA ZB.length wz] 51)))
 obtain ⟨q1, hq1⟩ : ∃ q, q = w.heap.size := ⟨_, rfl⟩
 rw [<- hq1] at ZY
 clear ZX hok hg
 go_enter Try.func21, Try.ntmps21
 go_upto_region 1 with fail
 rw [<- hq1]
 clear hq1
 generalize World.alloc w _ = W at ZY HW ⊢
 obtain ⟨Zc, hf1, hl1⟩ := ZO.all (ZY.at 0 rfl)
 have HS0 := VL ZY
 clear ZY
 go_wp2_with fail
 go_at_call 47
 refine HW.out.mono ?_
 rintro e w2 ⟨rfl, hw⟩
 subst hw
 simp only [Z8, if_true, if_false, Int.reduceEq, Int.reduceNeg]
 clear HW
 go_upto_region 5 with fail
 have hs : St I (row 5 1 (.slice none 0 0) ([] : List UInt8).length (Z6 []) :: bk W.heap.size 60 #[.slice none 0 0] :: bk q1 51 #[.int .i64 3, .int .u32 ZA, .int .u32 ZC, .int .u64 ZN, .int .u32 ZP, .int .u32 ZI, .int .u32 ZJ, .slice rA ZE.length rz, .string name, .slice sA ZG.length sz, .slice qA ZH.length qz, .int .u16 base, .int .u32 ref, .int .u8 count, .slice aA ZF.length az, .slice wA ZB.length wz] :: row 5 1 v lp.length (Z6 lp) :: bk p 60 #[v] :: M) (W.alloc (.cells #[.slice none 0 0] 60)) := (HS0.out.alloc 60 #[.slice none 0 0]).nil
 obtain ⟨B, hB⟩ : ∃ B, B = W.heap.size := ⟨_, rfl⟩
 rw [<- hB] at hs ⊢
 generalize World.alloc W _ = W2 at hs ⊢
 clear hB Zc hf1 hl1 HS0
 obtain ⟨cs1, hcs1⟩ : ∃ z : Array Value, z = #[.int .i64 3, .int .u32 ZA, .int .u32 ZC, .int .u64 ZN, .int .u32 ZP, .int .u32 ZI, .int .u32 ZJ, .slice rA ZE.length rz, .string name, .slice sA ZG.length sz, .slice qA ZH.length qz, .int .u16 base, .int .u32 ref, .int .u8 count, .slice aA ZF.length az, .slice wA ZB.length wz] := ⟨_, rfl⟩
 rw [<- hcs1] at hs
 have HC1 := VL hcs1
 clear hcs1
 obtain ⟨vb, hvb⟩ : ∃ vb : Value, vb = .slice none 0 0 := ⟨_, rfl⟩
 rw [<- hvb] at hs
 clear hvb
 obtain ⟨lw, hlw⟩ : ∃ lw, lw = lp := ⟨_, rfl⟩
 rw [<- hlw] at hs hl0
 have HLW := VL hlw
 clear hlw
 obtain ⟨l0, e0⟩ : ∃ z : List UInt8, z = [] := ⟨_, rfl⟩
 rw [<- e0] at hs
 have HL0 := VL (show l0.length <= 0 from by rw [e0]; exact Nat.le_refl _)
 have HE0 := VL e0
 have HS := VL hs
 clear hs e0
 obtain ⟨Zc, hf1, hl1⟩ := ZO.all (HS.out.at 2 rfl)
 rw [HC1.out] at Zc
 obtain ⟨hcb, hfb, hlb⟩ := (show ZO _ B 60 #[_] from HS.out.at 1 rfl).one
 have HC := VL (Xk (I := I) B 60 vb l0 ZA HS.out (by have := HL0.out; omega) HOK.out.ZA)
 go_wp2_with fail
 go_at_call 48
 refine HC.out.mono ?_
 clear Zc hf1 hl1 hcb hfb hlb
 clear HS HC vb
 rintro e w2 ⟨_, _, _, rfl, _, hs, rfl, rfl, vb, rfl⟩
 obtain ⟨l1, e1⟩ : ∃ z, z = l0 ++ ZM ZA := ⟨_, rfl⟩
 rw [<- e1] at hs
 have HL1 := VL (show l1.length <= 4 from by rw [e1, List.length_append]; have := HL0.out; have : (ZM ZA).length = 4 := (by first | rfl | simp); omega)
 have HE1 := VL e1
 clear e1
 have HS := VL hs
 clear hs
 obtain ⟨Zc, hf1, hl1⟩ := ZO.all (HS.out.at 2 rfl)
 rw [HC1.out] at Zc
 obtain ⟨hcb, hfb, hlb⟩ := (show ZO _ B 60 #[_] from HS.out.at 1 rfl).one
 have HC := VL (wU8 (I := I) B 60 vb l1 1 HS.out (by have := HL1.out; omega) (by decide))
 go_wp2_with fail
 go_at_call 49
 refine HC.out.mono ?_
 clear Zc hf1 hl1 hcb hfb hlb
 clear HS HC vb
 rintro e w2 ⟨_, _, _, rfl, _, hs, rfl, rfl, vb, rfl⟩
 obtain ⟨l2, e2⟩ : ∃ z, z = l1 ++ [byteOf 1] := ⟨_, rfl⟩
 rw [<- e2] at hs
 have HL2 := VL (show l2.length <= 5 from by rw [e2, List.length_append]; have := HL1.out; have : ([byteOf 1]).length = 1 := (by first | rfl | simp); omega)
 have HE2 := VL e2
 clear e2
 have HS := VL hs
 clear hs
 obtain ⟨Zc, hf1, hl1⟩ := ZO.all (HS.out.at 2 rfl)
 rw [HC1.out] at Zc
 obtain ⟨hcb, hfb, hlb⟩ := (show ZO _ B 60 #[_] from HS.out.at 1 rfl).one
 have hnm : (name.size : Int) < 256 := by omega
 have HC := VL (wU8 (I := I) B 60 vb l2 name.size HS.out (by have := HL2.out; omega) ⟨by omega, by omega⟩)
 go_wp2_with fail
 go_at_call 49
 refine HC.out.mono ?_
 clear Zc hf1 hl1 hcb hfb hlb
 clear HS HC vb
 rintro e w2 ⟨_, _, _, rfl, _, hs, rfl, rfl, vb, rfl⟩
 obtain ⟨l3, e3⟩ : ∃ z, z = l2 ++ [byteOf name.size] := ⟨_, rfl⟩
 rw [<- e3] at hs
 have HL3 := VL (show l3.length <= 6 from by rw [e3, List.length_append]; have := HL2.out; have : ([byteOf name.size]).length = 1 := (by first | rfl | simp); omega)
 have HE3 := VL e3
 clear e3
 have HS := VL hs
 clear hs
 obtain ⟨Zc, hf1, hl1⟩ := ZO.all (HS.out.at 2 rfl)
 rw [HC1.out] at Zc
 obtain ⟨hcb, hfb, hlb⟩ := (show ZO _ B 60 #[_] from HS.out.at 1 rfl).one
 clear hnm
 have hconv := run_bytes_of_string (P := Try.prog) w2 9 24 5 name Try.underlying9 Try.underlying24 Try.underlying5
 obtain ⟨J0, hle0, hs, hb⟩ := HS.out.bytesOf name (grownCap w2 name.size 0 5) ((bytesRow name (grownCap w2 name.size 0 5)).size, (bytesRow name (grownCap w2 name.size 0 5)).size + 1)
 generalize World.alloc w2.drew _ = w1 at hconv hs
 obtain ⟨cp, hcp⟩ : ∃ c, c = grownCap w2 name.size 0 5 := ⟨_, rfl⟩
 rw [<- hcp] at hconv
 clear hcp
 have HC : Hid (Calls Try.prog 50 #[.pointer (some ⟨B, 0, none⟩), .slice (some ⟨w2.heap.size, 0, none⟩) name.size cp] w1 (YR J0 (fun v' J M' => J0 = J /\ Wrote (bk q1 51 cs1 :: row 5 1 v lw.length (Z6 lw) :: bk p 60 #[v] :: M) B 60 (l3 ++ ls name) v' M'))) := by
  have := Wt (I := J0) (M := bk q1 51 cs1 :: row 5 1 v lw.length (Z6 lw) :: bk p 60 #[v] :: M) (w := w1) B 60 vb l3 (some ⟨w2.heap.size, 0, none⟩) cp (ls name) hs (by rw [ls_len]; have := HL3.out; omega) (fun w2 N h => Zq.src (e := 5) hb h Try.underlying24 cp)
  rw [ls_len] at this
  exact this
 have HCR := VL (HCR.out.mono hle0)
 have HCS := VL (HCS.out.mono hle0)
 have HCW := VL (HCW.out.mono hle0)
 have HLE0 := VL hle0
 clear hle0 hb
 obtain ⟨hcb9, hfb9, hlb9⟩ := (show ZO _ B 60 #[_] from hs.at 1 rfl).one
 clear hs
 go_wp2_with fail
 go_at_call 50
 refine HC.out.mono ?_
 clear Zc hf1 hl1 hcb hfb hlb
 clear HS HC vb hcb9 hfb9 hlb9
 rintro e w2 ⟨_, _, _, rfl, _, hs, rfl, rfl, vb, rfl⟩
 obtain ⟨l4, e4⟩ : ∃ z, z = l3 ++ ls name := ⟨_, rfl⟩
 rw [<- e4] at hs
 have HL4 := VL (show l4.length <= 70 from by rw [e4, List.length_append]; have := HL3.out; have : (ls name).length = name.size := ls_len name; omega)
 have HE4 := VL e4
 clear e4
 have HS := VL hs
 clear hs
 obtain ⟨Zc, hf1, hl1⟩ := ZO.all (HS.out.at 2 rfl)
 rw [HC1.out] at Zc
 obtain ⟨hcb, hfb, hlb⟩ := (show ZO _ B 60 #[_] from HS.out.at 1 rfl).one
 have HC := VL (wU8 (I := J0) B 60 vb l4 0 HS.out (by have := HL4.out; omega) (by decide))
 go_wp2_with fail
 go_at_call 49
 refine HC.out.mono ?_
 clear Zc hf1 hl1 hcb hfb hlb
 clear HS HC vb
 rintro e w2 ⟨_, _, _, rfl, _, hs, rfl, rfl, vb, rfl⟩
 obtain ⟨l5, e5⟩ : ∃ z, z = l4 ++ [byteOf 0] := ⟨_, rfl⟩
 rw [<- e5] at hs
 have HL5 := VL (show l5.length <= 71 from by rw [e5, List.length_append]; have := HL4.out; have : ([byteOf 0]).length = 1 := (by first | rfl | simp); omega)
 have HE5 := VL e5
 clear e5
 have HS := VL hs
 clear hs
 obtain ⟨Zc, hf1, hl1⟩ := ZO.all (HS.out.at 2 rfl)
 rw [HC1.out] at Zc
 obtain ⟨hcb, hfb, hlb⟩ := (show ZO _ B 60 #[_] from HS.out.at 1 rfl).one
 go_upto_region 47 with fail
 go_upto_region 48 with fail
 clear Zc hf1 hl1 hcb hfb hlb
 go_loopw [160] (fun iv wr => ∃ i : Nat, i <= ZE.length /\ iv = .int .i64 i /\ Hid (∃ vb, St J0 (row 5 1 vb (l5 ++ (ZE.take i).flatMap YK).length (Z6 (l5 ++ (ZE.take i).flatMap YK)) :: bk B 60 #[vb] :: bk q1 51 cs1 :: row 5 1 v lw.length (Z6 lw) :: bk p 60 #[v] :: M) wr)) (fun iv _ => ZE.length - (intOf iv).toNat)
 case atStart => exact ⟨0, by omega, rfl, vb, by simpa using HS.out⟩
 case round =>
  obtain ⟨i, hi, rfl, hh⟩ := hrel
  obtain ⟨vb, hs⟩ := hh.out
  have HS := VL hs
  clear hh hs
  by_cases Z0 : i < ZE.length
  ·skip
   have hsn := Yr YK ZE i Z0
   obtain ⟨g, o, rfl, ZK⟩ := flat_get (s := 7) (fun _ => rfl) HCR.out (by omega) (by decide)
   have hm := HOK.out.ZE _ (List.getElem_mem Z0)
   replace ZK : ∀ j, j < 7 -> wr.cell? ⟨g, o + i * 7 + j, none⟩ = (Yt ZE[i])[j]? := fun j hj => ZK _ _ HS.out i Z0 j hj
   obtain ⟨x, hxe⟩ : ∃ x, x = ZE[i] := ⟨_, rfl⟩
   rw [<- hxe] at ZK hm hsn
   have z0 : wr.cell? ⟨g, o + i * 7, none⟩ = some (.int .u32 x.src) := ZK 0 (by decide)
   have z1 : wr.cell? ⟨g, o + i * 7 + 1, none⟩ = some (.int .u8 x.lost) := ZK 1 (by decide)
   have z2 : wr.cell? ⟨g, o + i * 7 + 2, none⟩ = some (.int .u32 x.total) := ZK 2 (by decide)
   have z3 : wr.cell? ⟨g, o + i * 7 + 3, none⟩ = some (.int .u32 x.high) := ZK 3 (by decide)
   have z4 : wr.cell? ⟨g, o + i * 7 + 4, none⟩ = some (.int .u32 x.Xw) := ZK 4 (by decide)
   have z5 : wr.cell? ⟨g, o + i * 7 + 5, none⟩ = some (.int .u32 x.last) := ZK 5 (by decide)
   have z6 : wr.cell? ⟨g, o + i * 7 + 6, none⟩ = some (.int .u32 x.delay) := ZK 6 (by decide)
   obtain ⟨lb, e1⟩ : ∃ z, z = l5 ++ (ZE.take i).flatMap YK := ⟨_, rfl⟩
   have HL := VL (show lb.length <= 815 from by rw [e1, List.length_append]; have := HL5.out; have := Xl (f := YK) (s := 24) (n := 31) (fun x => by first | rfl | exact Za x) ZE i (by omega); omega)
   have hs := HS.out
   rw [<- e1] at hs
   have HSN := VL (And.intro e1 hsn)
   clear HS ZK hsn hxe e1
   have HS := VL hs
   clear hs
   have hs := HS.out.grow (.cells #[.int .u32 x.src, .int .u8 x.lost, .int .u32 x.total, .int .u32 x.high, .int .u32 x.Xw, .int .u32 x.last, .int .u32 x.delay] 65)
   have HC := VL (repW J0 (bk q1 51 cs1 :: row 5 1 v lw.length (Z6 lw) :: bk p 60 #[v] :: M) _ B 60 vb lb x hm hs (by have := HL.out; omega))
   clear hs HS hm
   go_wp2_with fail
   go_at_call 54
   refine HC.out.mono ?_
   rintro e w2 ⟨_, _, _, rfl, _, hs, rfl, rfl, vb, rfl⟩
   rw [HSN.out.1, List.append_assoc, <- HSN.out.2] at hs
   have HS := VL hs
   clear hs HC HSN
   go_wp2
   go_roundw
   case rel => exact ⟨i + 1, by omega, by go_num, vb, HS.out⟩
   case measure => simp [intOf]; omega
  have hin : i = ZE.length := by omega
  have hs := HS.out
  rw [hin, List.take_length] at hs
  subst hin
  clear HS
  obtain ⟨l6, e6⟩ : ∃ z, z = l5 ++ ZE.flatMap YK := ⟨_, rfl⟩
  rw [<- e6] at hs
  have HL6 := VL (show l6.length <= 815 from by rw [e6, List.length_append]; have := HL5.out; have := YD (f := YK) (s := 24) (fun x => by first | rfl | exact Za x) ZE; omega)
  have HE6 := VL e6
  clear e6
  have HS := VL hs
  clear hs
  obtain ⟨Zc, hf1, hl1⟩ := ZO.all (HS.out.at 2 rfl)
  rw [HC1.out] at Zc
  obtain ⟨hcb, hfb, hlb⟩ := (show ZO _ B 60 #[_] from HS.out.at 1 rfl).one
  go_upto_region 53 with fail
  clear Zc hf1 hl1 hcb hfb hlb
  go_loopw [170] (fun iv wr => ∃ i : Nat, i <= ZG.length /\ iv = .int .i64 i /\ Hid (∃ vb, St J0 (row 5 1 vb (l6 ++ (ZG.take i).flatMap ZM).length (Z6 (l6 ++ (ZG.take i).flatMap ZM)) :: bk B 60 #[vb] :: bk q1 51 cs1 :: row 5 1 v lw.length (Z6 lw) :: bk p 60 #[v] :: M) wr)) (fun iv _ => ZG.length - (intOf iv).toNat)
  case atStart => exact ⟨0, by omega, rfl, vb, by simpa using HS.out⟩
  case round =>
   obtain ⟨i, hi, rfl, hh⟩ := hrel
   obtain ⟨vb, hs⟩ := hh.out
   have HS := VL hs
   clear hh hs
   by_cases Z0 : i < ZG.length
   ·skip
    have hsn := Yr ZM ZG i Z0
    obtain ⟨g, o, rfl, ZK⟩ := flat_get (s := 1) (fun _ => rfl) HCS.out (by omega) (by decide)
    have hm := HOK.out.ZG _ (List.getElem_mem Z0)
    replace ZK : ∀ j, j < 1 -> wr.cell? ⟨g, o + i * 1 + j, none⟩ = (Xd ZG[i])[j]? := fun j hj => ZK _ _ HS.out i Z0 j hj
    obtain ⟨x, hxe⟩ : ∃ x, x = ZG[i] := ⟨_, rfl⟩
    rw [<- hxe] at ZK hm hsn
    have z0 : wr.cell? ⟨g, o + i, none⟩ = some (.int .u32 x) := by have := ZK 0 (by decide); simpa using this
    obtain ⟨lb, e1⟩ : ∃ z, z = l6 ++ (ZG.take i).flatMap ZM := ⟨_, rfl⟩
    have HL := VL (show lb.length <= 939 from by rw [e1, List.length_append]; have := HL6.out; have := Xl (f := ZM) (s := 4) (n := 31) (fun x => by first | rfl | exact Za x) ZG i (by omega); omega)
    have hs := HS.out
    rw [<- e1] at hs
    have HSN := VL (And.intro e1 hsn)
    clear HS ZK hsn hxe e1
    have HS := VL hs
    clear hs
    have HC := VL (Xk (I := J0) B 60 vb lb x HS.out (by have := HL.out; omega) hm)
    clear HS hm
    go_wp2_with fail
    go_at_call 48
    refine HC.out.mono ?_
    rintro e w2 ⟨_, _, _, rfl, _, hs, rfl, rfl, vb, rfl⟩
    rw [HSN.out.1, List.append_assoc, <- HSN.out.2] at hs
    have HS := VL hs
    clear hs HC HSN
    go_wp2
    go_roundw
    case rel => exact ⟨i + 1, by omega, by go_num, vb, HS.out⟩
    case measure => simp [intOf]; omega
   have hin : i = ZG.length := by omega
   have hs := HS.out
   rw [hin, List.take_length] at hs
   subst hin
   clear HS
   obtain ⟨l7, e7⟩ : ∃ z, z = l6 ++ ZG.flatMap ZM := ⟨_, rfl⟩
   rw [<- e7] at hs
   have HL7 := VL (show l7.length <= 939 from by rw [e7, List.length_append]; have := HL6.out; have := YD (f := ZM) (s := 4) (fun x => by first | rfl | exact Za x) ZG; omega)
   have HE7 := VL e7
   clear e7
   have HS := VL hs
   clear hs
   obtain ⟨Zc, hf1, hl1⟩ := ZO.all (HS.out.at 2 rfl)
   rw [HC1.out] at Zc
   obtain ⟨hcb, hfb, hlb⟩ := (show ZO _ B 60 #[_] from HS.out.at 1 rfl).one
   go_upto_region 58 with fail
   clear Zc hf1 hl1 hcb hfb hlb
   go_loopw [180] (fun iv wr => ∃ i : Nat, i <= ZB.length /\ iv = .int .i64 i /\ Hid (∃ vb, St J0 (row 5 1 vb (l7 ++ (ZB.take i).flatMap XU).length (Z6 (l7 ++ (ZB.take i).flatMap XU)) :: bk B 60 #[vb] :: bk q1 51 cs1 :: row 5 1 v lw.length (Z6 lw) :: bk p 60 #[v] :: M) wr)) (fun iv _ => ZB.length - (intOf iv).toNat)
   case atStart => exact ⟨0, by omega, rfl, vb, by simpa using HS.out⟩
   case round =>
    obtain ⟨i, hi, rfl, hh⟩ := hrel
    obtain ⟨vb, hs⟩ := hh.out
    have HS := VL hs
    clear hh hs
    by_cases Z0 : i < ZB.length
    ·skip
     have hsn := Yr XU ZB i Z0
     obtain ⟨g, o, rfl, ZK⟩ := flat_get (s := 2) (fun _ => rfl) HCW.out (by omega) (by decide)
     have hm := HOK.out.ZB _ (List.getElem_mem Z0)
     replace ZK : ∀ j, j < 2 -> wr.cell? ⟨g, o + i * 2 + j, none⟩ = (WO ZB[i])[j]? := fun j hj => ZK _ _ HS.out i Z0 j hj
     obtain ⟨x, hxe⟩ : ∃ x, x = ZB[i] := ⟨_, rfl⟩
     rw [<- hxe] at ZK hm hsn
     have z0 : wr.cell? ⟨g, o + i * 2, none⟩ = some (.int .u32 x.src) := ZK 0 (by decide)
     have z1 : wr.cell? ⟨g, o + i * 2 + 1, none⟩ = some (.int .u8 x.seq) := ZK 1 (by decide)
     obtain ⟨lb, e1⟩ : ∃ z, z = l7 ++ (ZB.take i).flatMap XU := ⟨_, rfl⟩
     have HL := VL (show lb.length <= 1003 from by rw [e1, List.length_append]; have := HL7.out; have := Xl (f := XU) (s := 8) (n := 8) (fun x => by first | rfl | exact Za x) ZB i (by omega); omega)
     have hs := HS.out
     rw [<- e1] at hs
     have HSN := VL (And.intro e1 hsn)
     clear HS ZK hsn hxe e1
     have HS := VL hs
     clear hs
     have hs := (HS.out.alloc 68 #[.int .u32 x.src, .int .u8 x.seq]).Ya.ZQ
     obtain ⟨qw, hqw⟩ : ∃ q, q = wr.heap.size := ⟨_, rfl⟩
     rw [<- hqw] at hs
     have HQW := VL hqw
     clear hqw
     have HC := VL (Xk (I := J0) (M := bk qw 68 #[.int .u32 x.src, .int .u8 x.seq] :: bk q1 51 cs1 :: row 5 1 v lw.length (Z6 lw) :: bk p 60 #[v] :: M) B 60 vb lb x.src hs (by have := HL.out; omega) hm.1)
     have HM := VL hm
     have hx2 := hm.2
     obtain ⟨hx3, hx4⟩ := hx2
     have hsq := hs
     clear hs HS hm
     go_upto_region 60 with fail
     rw [<- HQW.out]
     obtain ⟨hx5, hx6, hx7, hx8, hx9⟩ := (show ZO _ qw 68 #[.int .u32 x.src, .int .u8 x.seq] from hsq.at 2 rfl).two
     go_wp2_with fail
     go_at_call 48
     refine HC.out.mono ?_
     rintro e w2 ⟨_, _, _, rfl, _, hs, rfl, rfl, vb, rfl⟩
     clear hx5 hx6 hx7 hx8 hx9 hsq
     obtain ⟨hx5, hx6, hx7, hx8, hx9⟩ := (show ZO _ qw 68 #[.int .u32 x.src, .int .u8 x.seq] from hs.at 2 rfl).two
     obtain ⟨lc, hlc⟩ : ∃ z, z = lb ++ ZM x.src := ⟨_, rfl⟩
     rw [<- hlc] at hs
     have HC2 := VL (Xk (I := J0) B 60 vb lc (x.seq * 16777216) hs (by rw [hlc, List.length_append, Zy]; have := HL.out; omega) ⟨by omega, by omega⟩)
     have HLC := VL hlc
     clear hs hlc HC
     go_wp2_with fail
     go_at_call 48
     refine HC2.out.mono ?_
     rintro e w3 ⟨_, _, _, rfl, _, hs, rfl, rfl, vb, rfl⟩
     rw [HLC.out, List.append_assoc lb] at hs
     have HC := HC2
     clear HC2 HLC
     replace hs : St J0 (row 5 1 vb (lb ++ XU x).length (Z6 (lb ++ XU x)) :: bk B 60 #[vb] :: bk q1 51 cs1 :: row 5 1 v lw.length (Z6 lw) :: bk p 60 #[v] :: M) w3 := hs.ZQ.Ya.drop
     clear hx5 hx6 hx7 hx8 hx9
     rw [HSN.out.1, List.append_assoc, <- HSN.out.2] at hs
     have HS := VL hs
     clear hs HC HSN
     go_wp2
     go_roundw
     case rel => exact ⟨i + 1, by omega, by go_num, vb, HS.out⟩
     case measure => simp [intOf]; omega
    have hin : i = ZB.length := by omega
    have hs := HS.out
    rw [hin, List.take_length] at hs
    subst hin
    clear HS
    obtain ⟨l8, e8⟩ : ∃ z, z = l7 ++ ZB.flatMap XU := ⟨_, rfl⟩
    rw [<- e8] at hs
    have HL8 := VL (show l8.length <= 1003 from by rw [e8, List.length_append]; have := HL7.out; have := YD (f := XU) (s := 8) (fun x => by first | rfl | exact Za x) ZB; omega)
    have HE8 := VL e8
    clear e8
    have HS := VL hs
    clear hs
    obtain ⟨Zc, hf1, hl1⟩ := ZO.all (HS.out.at 2 rfl)
    rw [HC1.out] at Zc
    obtain ⟨hcb, hfb, hlb⟩ := (show ZO _ B 60 #[_] from HS.out.at 1 rfl).one
    have HC := VL (evenC J0 _ _ B 60 vb l8 HS.out (by have := HL8.out; omega))
    go_wp2_with fail
    go_at_call 55
    refine HC.out.mono ?_
    clear Zc hf1 hl1 hcb hfb hlb
    clear HS HC vb
    rintro e w2 ⟨_, _, _, rfl, _, hs, rfl, rfl, vb, rfl⟩
    obtain ⟨lb, hlb⟩ : ∃ z, z = YH l8 := ⟨_, rfl⟩
    rw [<- hlb] at hs
    have HLB := VL (show lb.length <= 1006 from by rw [hlb]; have := HL8.out; have := Xr l8; omega)
    have HEB := VL hlb
    clear hlb
    have hs := hs.rot23
    have hlow := X7 HLOW.out.1 HLOW.out.2
    have hlo := HLOW.out
    simp only [XV, Z8, if_true, if_false, Int.reduceEq, Int.reduceNeg, Int.reduceLT] at hlow hlo
    obtain ⟨hlo1, hlo2⟩ := hlo
    have HC := VL (wU8 (I := J0) p 60 v lw (128 + 1) hs (by omega) (by omega))
    clear hs
    go_wp2_with fail
    go_at_call 49
    refine HC.out.mono ?_
    clear HC
    rintro e w2 ⟨_, _, _, rfl, _, hs, rfl, rfl, v, rfl⟩
    have HC := VL (wU8 (I := J0) p 60 v _ 202 hs (by rw [List.length_append]; show _ + 1 <= _; omega) (by decide))
    clear hs hlow hlo1 hlo2
    go_wp2_with fail
    go_at_call 49
    refine HC.out.mono ?_
    clear HC
    rintro e w2 ⟨_, _, _, rfl, _, hs, rfl, rfl, v, rfl⟩
    obtain ⟨lx, hlx⟩ : ∃ z, z = lw ++ [byteOf (128 + 1)] ++ [byteOf 202] := ⟨_, rfl⟩
    rw [<- hlx] at hs
    have hlxl : lx.length = lw.length + 2 := by rw [hlx]; simp
    have HLX := VL hlx
    clear hlx
    have h5 := HLB.out
    have HC := VL (Ws (I := J0) p 60 v lx ((lb.length / 4 : Nat) : Int) hs (by omega) ⟨by omega, by omega⟩)
    obtain ⟨A, c, rfl⟩ := ZW (show World.ownsRow _ 0 5 1 vb lb.length (Z6 lb) from hs.at 2 rfl)
    obtain ⟨hcb, hfb, hlb⟩ := (show ZO _ B 60 #[_] from hs.at 3 rfl).one
    clear hs
    go_wp2_with fail
    go_at_call 52
    refine HC.out.mono ?_
    clear HC hcb hfb hlb
    rintro e w2 ⟨_, _, _, rfl, _, hs, rfl, rfl, v, rfl⟩
    have hs := hs.rot32
    obtain ⟨J, Z5, hs, hA⟩ := hs.ZR
    have hs := hs.X4
    obtain ⟨hcb, hfb, hlb⟩ := (show ZO _ B 60 #[_] from hs.at 2 rfl).one
    obtain ⟨ly, hly⟩ : ∃ z, z = lx ++ Zi ((lb.length / 4 : Nat) : Int) := ⟨_, rfl⟩
    rw [<- hly] at hs
    have hlyl : ly.length = lx.length + 2 := by rw [hly, List.length_append, Zz]
    have HLY := VL hly
    have HC := VL (Wt (I := J) p 60 v ly A c lb hs (by omega) (fun w2 N h => Zq.src (e := 5) (show Zq J A lb from hA) h Try.underlying24 c))
    have HLE := VL Z5
    clear hs hly Z5 hA
    go_wp2_with fail
    go_at_call 50
    refine HC.out.mono ?_
    rintro e w2 ⟨_, _, _, rfl, _, hs, rfl, rfl, v, rfl⟩
    have HS := VL hs.drop23
    clear hs HC
    go_wp2
    go_returns
    refine YR.mk (HLE0.out.trans HLE.out) HS.out ⟨rfl, v, ?_⟩
    have hb : l8 = Zu (⟨3, ZA, ZC, ZN, ZP, ZI, ZJ, ZE, name, ZG, ZH, base, ref, count, ZF, ZB⟩ : Pk) := by
     rw [HE8.out, HE7.out, HE6.out, HE5.out, HE4.out, HE3.out, HE2.out, HE1.out, HE0.out]
     simp [Zu, Xf, Wl]
    have hlb2 : lb = YH (Zu (⟨3, ZA, ZC, ZN, ZP, ZI, ZJ, ZE, name, ZG, ZH, base, ref, count, ZF, ZB⟩ : Pk)) := by rw [HEB.out, hb]
    have he : lp ++ ZV (⟨3, ZA, ZC, ZN, ZP, ZI, ZJ, ZE, name, ZG, ZH, base, ref, count, ZF, ZB⟩ : Pk) = ly ++ lb := by
     unfold ZV
     rw [<- hlb2, HLY.out, HLX.out, <- HLW.out]
     simp [XV, Z8]
    rw [he]
set_option maxRecDepth 100000 in
set_option maxHeartbeats 40000000 in
theorem write4 (I : Zh) (M : List Zt) (w : World) (ZA : Int) (ZC : Int) (ZN : Int) (ZP : Int) (ZI : Int) (ZJ : Int) (base : Int) (ref : Int) (count : Int) (name : ByteArray) (ZE : List Rp) (ZG ZH ZF : List Int) (ZB : List Wn) (rA : Option Addr) (rz : Nat) (sA : Option Addr) (sz : Nat) (qA : Option Addr) (qz : Nat) (aA : Option Addr) (az : Nat) (wA : Option Addr) (wz : Nat) (cr : Cells I rA (flat Yt ZE)) (cs : Cells I sA (flat Xd ZG)) (cq : Cells I qA (flat Yp ZH)) (ca : Cells I aA (flat XC ZF)) (cw : Cells I wA (flat WO ZB)) (p : Nat) (v : Value) (lp : List UInt8) (hok : Y6 (⟨4, ZA, ZC, ZN, ZP, ZI, ZJ, ZE, name, ZG, ZH, base, ref, count, ZF, ZB⟩ : Pk)) (hg : Good (⟨4, ZA, ZC, ZN, ZP, ZI, ZJ, ZE, name, ZG, ZH, base, ref, count, ZF, ZB⟩ : Pk)) (hl0 : lp.length <= 70368744170000) (ZX : St I (row 5 1 v lp.length (Z6 lp) :: bk p 60 #[v] :: M) w) :
  Calls Try.prog 21 #[.agg #[.int .i64 4, .int .u32 ZA, .int .u32 ZC, .int .u64 ZN, .int .u32 ZP, .int .u32 ZI, .int .u32 ZJ, .slice rA ZE.length rz, .string name, .slice sA ZG.length sz, .slice qA ZH.length qz, .int .u16 base, .int .u32 ref, .int .u8 count, .slice aA ZF.length az, .slice wA ZB.length wz], .pointer (some ⟨p, 0, none⟩)] w (YR I (fun v' _ M' => Wrote M p 60 (lp ++ ZV (⟨4, ZA, ZC, ZN, ZP, ZI, ZJ, ZE, name, ZG, ZH, base, ref, count, ZF, ZB⟩ : Pk)) v' M')) := by
 have ZY := ZX.alloc 51 #[.int .i64 4, .int .u32 ZA, .int .u32 ZC, .int .u64 ZN, .int .u32 ZP, .int .u32 ZI, .int .u32 ZJ, .slice rA ZE.length rz, .string name, .slice sA ZG.length sz, .slice qA ZH.length qz, .int .u16 base, .int .u32 ref, .int .u8 count, .slice aA ZF.length az, .slice wA ZB.length wz]
 have HOK := VL hok
 obtain ⟨n1, n2, n3, n4, n5, n6⟩ := Y0 hg
 have HLOW := VL (XB hg)
 simp only [] at n1 n2 n3 n4 n5 n6
 have HCR := VL cr
 have HCS := VL cs
 have HCW := VL cw
 have HCQ := VL cq
 have HCA := VL ca
 clear cr cs cq ca cw
 have HW := VL (VD 4 (w.alloc (.cells #[.int .i64 4, .int .u32 ZA, .int .u32 ZC, .int .u64 ZN, .int .u32 ZP, .int .u32 ZI, .int .u32 ZJ, .slice rA ZE.length rz, .string name, .slice sA ZG.length sz, .slice qA ZH.length qz, .int .u16 base, .int .u32 ref, .int .u8 count, .slice aA ZF.length az, .slice wA ZB.length wz] 51)))
 obtain ⟨q1, hq1⟩ : ∃ q, q = w.heap.size := ⟨_, rfl⟩
 rw [<- hq1] at ZY
 clear ZX hok hg
 go_enter Try.func21, Try.ntmps21
 go_upto_region 1 with fail
 rw [<- hq1]
 clear hq1
 generalize World.alloc w _ = W at ZY HW ⊢
 obtain ⟨Zc, hf1, hl1⟩ := ZO.all (ZY.at 0 rfl)
 have HS0 := VL ZY
 clear ZY
 go_wp2_with fail
 go_at_call 47
 refine HW.out.mono ?_
 rintro e w2 ⟨rfl, hw⟩
 subst hw
 simp only [Z8, if_true, if_false, Int.reduceEq, Int.reduceNeg]
 clear HW
 go_upto_region 5 with fail
 have hs : St I (row 5 1 (.slice none 0 0) ([] : List UInt8).length (Z6 []) :: bk W.heap.size 60 #[.slice none 0 0] :: bk q1 51 #[.int .i64 4, .int .u32 ZA, .int .u32 ZC, .int .u64 ZN, .int .u32 ZP, .int .u32 ZI, .int .u32 ZJ, .slice rA ZE.length rz, .string name, .slice sA ZG.length sz, .slice qA ZH.length qz, .int .u16 base, .int .u32 ref, .int .u8 count, .slice aA ZF.length az, .slice wA ZB.length wz] :: row 5 1 v lp.length (Z6 lp) :: bk p 60 #[v] :: M) (W.alloc (.cells #[.slice none 0 0] 60)) := (HS0.out.alloc 60 #[.slice none 0 0]).nil
 obtain ⟨B, hB⟩ : ∃ B, B = W.heap.size := ⟨_, rfl⟩
 rw [<- hB] at hs ⊢
 generalize World.alloc W _ = W2 at hs ⊢
 clear hB Zc hf1 hl1 HS0
 obtain ⟨cs1, hcs1⟩ : ∃ z : Array Value, z = #[.int .i64 4, .int .u32 ZA, .int .u32 ZC, .int .u64 ZN, .int .u32 ZP, .int .u32 ZI, .int .u32 ZJ, .slice rA ZE.length rz, .string name, .slice sA ZG.length sz, .slice qA ZH.length qz, .int .u16 base, .int .u32 ref, .int .u8 count, .slice aA ZF.length az, .slice wA ZB.length wz] := ⟨_, rfl⟩
 rw [<- hcs1] at hs
 have HC1 := VL hcs1
 clear hcs1
 obtain ⟨vb, hvb⟩ : ∃ vb : Value, vb = .slice none 0 0 := ⟨_, rfl⟩
 rw [<- hvb] at hs
 clear hvb
 obtain ⟨lw, hlw⟩ : ∃ lw, lw = lp := ⟨_, rfl⟩
 rw [<- hlw] at hs hl0
 have HLW := VL hlw
 clear hlw
 obtain ⟨l0, e0⟩ : ∃ z : List UInt8, z = [] := ⟨_, rfl⟩
 rw [<- e0] at hs
 have HL0 := VL (show l0.length <= 0 from by rw [e0]; exact Nat.le_refl _)
 have HE0 := VL e0
 have HS := VL hs
 clear hs e0
 obtain ⟨Zc, hf1, hl1⟩ := ZO.all (HS.out.at 2 rfl)
 rw [HC1.out] at Zc
 obtain ⟨hcb, hfb, hlb⟩ := (show ZO _ B 60 #[_] from HS.out.at 1 rfl).one
 go_upto_region 47 with fail
 go_upto_region 48 with fail
 clear Zc hf1 hl1 hcb hfb hlb
 go_loopw [160] (fun iv wr => ∃ i : Nat, i <= ZE.length /\ iv = .int .i64 i /\ Hid (∃ vb, St I (row 5 1 vb (l0 ++ (ZE.take i).flatMap YK).length (Z6 (l0 ++ (ZE.take i).flatMap YK)) :: bk B 60 #[vb] :: bk q1 51 cs1 :: row 5 1 v lw.length (Z6 lw) :: bk p 60 #[v] :: M) wr)) (fun iv _ => ZE.length - (intOf iv).toNat)
 case atStart => exact ⟨0, by omega, rfl, vb, by simpa using HS.out⟩
 case round =>
  obtain ⟨i, hi, rfl, hh⟩ := hrel
  obtain ⟨vb, hs⟩ := hh.out
  have HS := VL hs
  clear hh hs
  by_cases Z0 : i < ZE.length
  ·skip
   have hsn := Yr YK ZE i Z0
   obtain ⟨g, o, rfl, ZK⟩ := flat_get (s := 7) (fun _ => rfl) HCR.out (by omega) (by decide)
   have hm := HOK.out.ZE _ (List.getElem_mem Z0)
   replace ZK : ∀ j, j < 7 -> wr.cell? ⟨g, o + i * 7 + j, none⟩ = (Yt ZE[i])[j]? := fun j hj => ZK _ _ HS.out i Z0 j hj
   obtain ⟨x, hxe⟩ : ∃ x, x = ZE[i] := ⟨_, rfl⟩
   rw [<- hxe] at ZK hm hsn
   have z0 : wr.cell? ⟨g, o + i * 7, none⟩ = some (.int .u32 x.src) := ZK 0 (by decide)
   have z1 : wr.cell? ⟨g, o + i * 7 + 1, none⟩ = some (.int .u8 x.lost) := ZK 1 (by decide)
   have z2 : wr.cell? ⟨g, o + i * 7 + 2, none⟩ = some (.int .u32 x.total) := ZK 2 (by decide)
   have z3 : wr.cell? ⟨g, o + i * 7 + 3, none⟩ = some (.int .u32 x.high) := ZK 3 (by decide)
   have z4 : wr.cell? ⟨g, o + i * 7 + 4, none⟩ = some (.int .u32 x.Xw) := ZK 4 (by decide)
   have z5 : wr.cell? ⟨g, o + i * 7 + 5, none⟩ = some (.int .u32 x.last) := ZK 5 (by decide)
   have z6 : wr.cell? ⟨g, o + i * 7 + 6, none⟩ = some (.int .u32 x.delay) := ZK 6 (by decide)
   obtain ⟨lb, e1⟩ : ∃ z, z = l0 ++ (ZE.take i).flatMap YK := ⟨_, rfl⟩
   have HL := VL (show lb.length <= 744 from by rw [e1, List.length_append]; have := HL0.out; have := Xl (f := YK) (s := 24) (n := 31) (fun x => by first | rfl | exact Za x) ZE i (by omega); omega)
   have hs := HS.out
   rw [<- e1] at hs
   have HSN := VL (And.intro e1 hsn)
   clear HS ZK hsn hxe e1
   have HS := VL hs
   clear hs
   have hs := HS.out.grow (.cells #[.int .u32 x.src, .int .u8 x.lost, .int .u32 x.total, .int .u32 x.high, .int .u32 x.Xw, .int .u32 x.last, .int .u32 x.delay] 65)
   have HC := VL (repW I (bk q1 51 cs1 :: row 5 1 v lw.length (Z6 lw) :: bk p 60 #[v] :: M) _ B 60 vb lb x hm hs (by have := HL.out; omega))
   clear hs HS hm
   go_wp2_with fail
   go_at_call 54
   refine HC.out.mono ?_
   rintro e w2 ⟨_, _, _, rfl, _, hs, rfl, rfl, vb, rfl⟩
   rw [HSN.out.1, List.append_assoc, <- HSN.out.2] at hs
   have HS := VL hs
   clear hs HC HSN
   go_wp2
   go_roundw
   case rel => exact ⟨i + 1, by omega, by go_num, vb, HS.out⟩
   case measure => simp [intOf]; omega
  have hin : i = ZE.length := by omega
  have hs := HS.out
  rw [hin, List.take_length] at hs
  subst hin
  clear HS
  obtain ⟨l1, e1⟩ : ∃ z, z = l0 ++ ZE.flatMap YK := ⟨_, rfl⟩
  rw [<- e1] at hs
  have HL1 := VL (show l1.length <= 744 from by rw [e1, List.length_append]; have := HL0.out; have := YD (f := YK) (s := 24) (fun x => by first | rfl | exact Za x) ZE; omega)
  have HE1 := VL e1
  clear e1
  have HS := VL hs
  clear hs
  obtain ⟨Zc, hf1, hl1⟩ := ZO.all (HS.out.at 2 rfl)
  rw [HC1.out] at Zc
  obtain ⟨hcb, hfb, hlb⟩ := (show ZO _ B 60 #[_] from HS.out.at 1 rfl).one
  go_upto_region 53 with fail
  clear Zc hf1 hl1 hcb hfb hlb
  go_loopw [170] (fun iv wr => ∃ i : Nat, i <= ZG.length /\ iv = .int .i64 i /\ Hid (∃ vb, St I (row 5 1 vb (l1 ++ (ZG.take i).flatMap ZM).length (Z6 (l1 ++ (ZG.take i).flatMap ZM)) :: bk B 60 #[vb] :: bk q1 51 cs1 :: row 5 1 v lw.length (Z6 lw) :: bk p 60 #[v] :: M) wr)) (fun iv _ => ZG.length - (intOf iv).toNat)
  case atStart => exact ⟨0, by omega, rfl, vb, by simpa using HS.out⟩
  case round =>
   obtain ⟨i, hi, rfl, hh⟩ := hrel
   obtain ⟨vb, hs⟩ := hh.out
   have HS := VL hs
   clear hh hs
   by_cases Z0 : i < ZG.length
   ·skip
    have hsn := Yr ZM ZG i Z0
    obtain ⟨g, o, rfl, ZK⟩ := flat_get (s := 1) (fun _ => rfl) HCS.out (by omega) (by decide)
    have hm := HOK.out.ZG _ (List.getElem_mem Z0)
    replace ZK : ∀ j, j < 1 -> wr.cell? ⟨g, o + i * 1 + j, none⟩ = (Xd ZG[i])[j]? := fun j hj => ZK _ _ HS.out i Z0 j hj
    obtain ⟨x, hxe⟩ : ∃ x, x = ZG[i] := ⟨_, rfl⟩
    rw [<- hxe] at ZK hm hsn
    have z0 : wr.cell? ⟨g, o + i, none⟩ = some (.int .u32 x) := by have := ZK 0 (by decide); simpa using this
    obtain ⟨lb, e1⟩ : ∃ z, z = l1 ++ (ZG.take i).flatMap ZM := ⟨_, rfl⟩
    have HL := VL (show lb.length <= 868 from by rw [e1, List.length_append]; have := HL1.out; have := Xl (f := ZM) (s := 4) (n := 31) (fun x => by first | rfl | exact Za x) ZG i (by omega); omega)
    have hs := HS.out
    rw [<- e1] at hs
    have HSN := VL (And.intro e1 hsn)
    clear HS ZK hsn hxe e1
    have HS := VL hs
    clear hs
    have HC := VL (Xk (I := I) B 60 vb lb x HS.out (by have := HL.out; omega) hm)
    clear HS hm
    go_wp2_with fail
    go_at_call 48
    refine HC.out.mono ?_
    rintro e w2 ⟨_, _, _, rfl, _, hs, rfl, rfl, vb, rfl⟩
    rw [HSN.out.1, List.append_assoc, <- HSN.out.2] at hs
    have HS := VL hs
    clear hs HC HSN
    go_wp2
    go_roundw
    case rel => exact ⟨i + 1, by omega, by go_num, vb, HS.out⟩
    case measure => simp [intOf]; omega
   have hin : i = ZG.length := by omega
   have hs := HS.out
   rw [hin, List.take_length] at hs
   subst hin
   clear HS
   obtain ⟨l2, e2⟩ : ∃ z, z = l1 ++ ZG.flatMap ZM := ⟨_, rfl⟩
   rw [<- e2] at hs
   have HL2 := VL (show l2.length <= 868 from by rw [e2, List.length_append]; have := HL1.out; have := YD (f := ZM) (s := 4) (fun x => by first | rfl | exact Za x) ZG; omega)
   have HE2 := VL e2
   clear e2
   have HS := VL hs
   clear hs
   obtain ⟨Zc, hf1, hl1⟩ := ZO.all (HS.out.at 2 rfl)
   rw [HC1.out] at Zc
   obtain ⟨hcb, hfb, hlb⟩ := (show ZO _ B 60 #[_] from HS.out.at 1 rfl).one
   go_upto_region 58 with fail
   clear Zc hf1 hl1 hcb hfb hlb
   go_loopw [180] (fun iv wr => ∃ i : Nat, i <= ZB.length /\ iv = .int .i64 i /\ Hid (∃ vb, St I (row 5 1 vb (l2 ++ (ZB.take i).flatMap XU).length (Z6 (l2 ++ (ZB.take i).flatMap XU)) :: bk B 60 #[vb] :: bk q1 51 cs1 :: row 5 1 v lw.length (Z6 lw) :: bk p 60 #[v] :: M) wr)) (fun iv _ => ZB.length - (intOf iv).toNat)
   case atStart => exact ⟨0, by omega, rfl, vb, by simpa using HS.out⟩
   case round =>
    obtain ⟨i, hi, rfl, hh⟩ := hrel
    obtain ⟨vb, hs⟩ := hh.out
    have HS := VL hs
    clear hh hs
    by_cases Z0 : i < ZB.length
    ·skip
     have hsn := Yr XU ZB i Z0
     obtain ⟨g, o, rfl, ZK⟩ := flat_get (s := 2) (fun _ => rfl) HCW.out (by omega) (by decide)
     have hm := HOK.out.ZB _ (List.getElem_mem Z0)
     replace ZK : ∀ j, j < 2 -> wr.cell? ⟨g, o + i * 2 + j, none⟩ = (WO ZB[i])[j]? := fun j hj => ZK _ _ HS.out i Z0 j hj
     obtain ⟨x, hxe⟩ : ∃ x, x = ZB[i] := ⟨_, rfl⟩
     rw [<- hxe] at ZK hm hsn
     have z0 : wr.cell? ⟨g, o + i * 2, none⟩ = some (.int .u32 x.src) := ZK 0 (by decide)
     have z1 : wr.cell? ⟨g, o + i * 2 + 1, none⟩ = some (.int .u8 x.seq) := ZK 1 (by decide)
     obtain ⟨lb, e1⟩ : ∃ z, z = l2 ++ (ZB.take i).flatMap XU := ⟨_, rfl⟩
     have HL := VL (show lb.length <= 932 from by rw [e1, List.length_append]; have := HL2.out; have := Xl (f := XU) (s := 8) (n := 8) (fun x => by first | rfl | exact Za x) ZB i (by omega); omega)
     have hs := HS.out
     rw [<- e1] at hs
     have HSN := VL (And.intro e1 hsn)
     clear HS ZK hsn hxe e1
     have HS := VL hs
     clear hs
     have hs := (HS.out.alloc 68 #[.int .u32 x.src, .int .u8 x.seq]).Ya.ZQ
     obtain ⟨qw, hqw⟩ : ∃ q, q = wr.heap.size := ⟨_, rfl⟩
     rw [<- hqw] at hs
     have HQW := VL hqw
     clear hqw
     have HC := VL (Xk (I := I) (M := bk qw 68 #[.int .u32 x.src, .int .u8 x.seq] :: bk q1 51 cs1 :: row 5 1 v lw.length (Z6 lw) :: bk p 60 #[v] :: M) B 60 vb lb x.src hs (by have := HL.out; omega) hm.1)
     have HM := VL hm
     have hx2 := hm.2
     obtain ⟨hx3, hx4⟩ := hx2
     have hsq := hs
     clear hs HS hm
     go_upto_region 60 with fail
     rw [<- HQW.out]
     obtain ⟨hx5, hx6, hx7, hx8, hx9⟩ := (show ZO _ qw 68 #[.int .u32 x.src, .int .u8 x.seq] from hsq.at 2 rfl).two
     go_wp2_with fail
     go_at_call 48
     refine HC.out.mono ?_
     rintro e w2 ⟨_, _, _, rfl, _, hs, rfl, rfl, vb, rfl⟩
     clear hx5 hx6 hx7 hx8 hx9 hsq
     obtain ⟨hx5, hx6, hx7, hx8, hx9⟩ := (show ZO _ qw 68 #[.int .u32 x.src, .int .u8 x.seq] from hs.at 2 rfl).two
     obtain ⟨lc, hlc⟩ : ∃ z, z = lb ++ ZM x.src := ⟨_, rfl⟩
     rw [<- hlc] at hs
     have HC2 := VL (Xk (I := I) B 60 vb lc (x.seq * 16777216) hs (by rw [hlc, List.length_append, Zy]; have := HL.out; omega) ⟨by omega, by omega⟩)
     have HLC := VL hlc
     clear hs hlc HC
     go_wp2_with fail
     go_at_call 48
     refine HC2.out.mono ?_
     rintro e w3 ⟨_, _, _, rfl, _, hs, rfl, rfl, vb, rfl⟩
     rw [HLC.out, List.append_assoc lb] at hs
     have HC := HC2
     clear HC2 HLC
     replace hs : St I (row 5 1 vb (lb ++ XU x).length (Z6 (lb ++ XU x)) :: bk B 60 #[vb] :: bk q1 51 cs1 :: row 5 1 v lw.length (Z6 lw) :: bk p 60 #[v] :: M) w3 := hs.ZQ.Ya.drop
     clear hx5 hx6 hx7 hx8 hx9
     rw [HSN.out.1, List.append_assoc, <- HSN.out.2] at hs
     have HS := VL hs
     clear hs HC HSN
     go_wp2
     go_roundw
     case rel => exact ⟨i + 1, by omega, by go_num, vb, HS.out⟩
     case measure => simp [intOf]; omega
    have hin : i = ZB.length := by omega
    have hs := HS.out
    rw [hin, List.take_length] at hs
    subst hin
    clear HS
    obtain ⟨l3, e3⟩ : ∃ z, z = l2 ++ ZB.flatMap XU := ⟨_, rfl⟩
    rw [<- e3] at hs
    have HL3 := VL (show l3.length <= 932 from by rw [e3, List.length_append]; have := HL2.out; have := YD (f := XU) (s := 8) (fun x => by first | rfl | exact Za x) ZB; omega)
    have HE3 := VL e3
    clear e3
    have HS := VL hs
    clear hs
    obtain ⟨Zc, hf1, hl1⟩ := ZO.all (HS.out.at 2 rfl)
    rw [HC1.out] at Zc
    obtain ⟨hcb, hfb, hlb⟩ := (show ZO _ B 60 #[_] from HS.out.at 1 rfl).one
    have HC := VL (evenC I _ _ B 60 vb l3 HS.out (by have := HL3.out; omega))
    go_wp2_with fail
    go_at_call 55
    refine HC.out.mono ?_
    clear Zc hf1 hl1 hcb hfb hlb
    clear HS HC vb
    rintro e w2 ⟨_, _, _, rfl, _, hs, rfl, rfl, vb, rfl⟩
    obtain ⟨lb, hlb⟩ : ∃ z, z = YH l3 := ⟨_, rfl⟩
    rw [<- hlb] at hs
    have HLB := VL (show lb.length <= 935 from by rw [hlb]; have := HL3.out; have := Xr l3; omega)
    have HEB := VL hlb
    clear hlb
    have hs := hs.rot23
    have hlow := X7 HLOW.out.1 HLOW.out.2
    have hlo := HLOW.out
    simp only [XV, Z8, if_true, if_false, Int.reduceEq, Int.reduceNeg, Int.reduceLT] at hlow hlo
    obtain ⟨hlo1, hlo2⟩ := hlo
    have HC := VL (wU8 (I := I) p 60 v lw (128 + (ZE.length + ZG.length : Int)) hs (by omega) (by omega))
    clear hs
    go_wp2_with fail
    go_at_call 49
    refine HC.out.mono ?_
    clear HC
    rintro e w2 ⟨_, _, _, rfl, _, hs, rfl, rfl, v, rfl⟩
    have HC := VL (wU8 (I := I) p 60 v _ 203 hs (by rw [List.length_append]; show _ + 1 <= _; omega) (by decide))
    clear hs hlow hlo1 hlo2
    go_wp2_with fail
    go_at_call 49
    refine HC.out.mono ?_
    clear HC
    rintro e w2 ⟨_, _, _, rfl, _, hs, rfl, rfl, v, rfl⟩
    obtain ⟨lx, hlx⟩ : ∃ z, z = lw ++ [byteOf (128 + (ZE.length + ZG.length : Int))] ++ [byteOf 203] := ⟨_, rfl⟩
    rw [<- hlx] at hs
    have hlxl : lx.length = lw.length + 2 := by rw [hlx]; simp
    have HLX := VL hlx
    clear hlx
    have h5 := HLB.out
    have HC := VL (Ws (I := I) p 60 v lx ((lb.length / 4 : Nat) : Int) hs (by omega) ⟨by omega, by omega⟩)
    obtain ⟨A, c, rfl⟩ := ZW (show World.ownsRow _ 0 5 1 vb lb.length (Z6 lb) from hs.at 2 rfl)
    obtain ⟨hcb, hfb, hlb⟩ := (show ZO _ B 60 #[_] from hs.at 3 rfl).one
    clear hs
    go_wp2_with fail
    go_at_call 52
    refine HC.out.mono ?_
    clear HC hcb hfb hlb
    rintro e w2 ⟨_, _, _, rfl, _, hs, rfl, rfl, v, rfl⟩
    have hs := hs.rot32
    obtain ⟨J, Z5, hs, hA⟩ := hs.ZR
    have hs := hs.X4
    obtain ⟨hcb, hfb, hlb⟩ := (show ZO _ B 60 #[_] from hs.at 2 rfl).one
    obtain ⟨ly, hly⟩ : ∃ z, z = lx ++ Zi ((lb.length / 4 : Nat) : Int) := ⟨_, rfl⟩
    rw [<- hly] at hs
    have hlyl : ly.length = lx.length + 2 := by rw [hly, List.length_append, Zz]
    have HLY := VL hly
    have HC := VL (Wt (I := J) p 60 v ly A c lb hs (by omega) (fun w2 N h => Zq.src (e := 5) (show Zq J A lb from hA) h Try.underlying24 c))
    have HLE := VL Z5
    clear hs hly Z5 hA
    go_wp2_with fail
    go_at_call 50
    refine HC.out.mono ?_
    rintro e w2 ⟨_, _, _, rfl, _, hs, rfl, rfl, v, rfl⟩
    have HS := VL hs.drop23
    clear hs HC
    go_wp2
    go_returns
    refine YR.mk (HLE.out) HS.out ⟨rfl, v, ?_⟩
    have hb : l3 = Zu (⟨4, ZA, ZC, ZN, ZP, ZI, ZJ, ZE, name, ZG, ZH, base, ref, count, ZF, ZB⟩ : Pk) := by
     rw [HE3.out, HE2.out, HE1.out, HE0.out]
     simp [Zu, Xf, Wl]
    have hlb2 : lb = YH (Zu (⟨4, ZA, ZC, ZN, ZP, ZI, ZJ, ZE, name, ZG, ZH, base, ref, count, ZF, ZB⟩ : Pk)) := by rw [HEB.out, hb]
    have he : lp ++ ZV (⟨4, ZA, ZC, ZN, ZP, ZI, ZJ, ZE, name, ZG, ZH, base, ref, count, ZF, ZB⟩ : Pk) = ly ++ lb := by
     unfold ZV
     rw [<- hlb2, HLY.out, HLX.out, <- HLW.out]
     simp [XV, Z8]
    rw [he]
end Go.Proofs.Ytddopbbmgpnjjaa
