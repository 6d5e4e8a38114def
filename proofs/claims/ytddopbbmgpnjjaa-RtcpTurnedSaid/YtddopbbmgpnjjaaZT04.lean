/- part. -/
import Derived.Test.YtddopbbmgpnjjaaZT03
import Derived.Deep.CutBlock
namespace Go.Proofs.Ytddopbbmgpnjjaa
set_option linter.unusedSimpArgs false
open Go.RowKit
theorem fld56_0 (g : Nat) (w : World) : (Instr.fieldAt 56 (.pointer (some ⟨g, 0, none⟩)) 0).run Try.prog w = .ok (.pointer (some ⟨g, 0, none⟩)) w := by go_simp
theorem fld56_1 (g : Nat) (w : World) : (Instr.fieldAt 56 (.pointer (some ⟨g, 0, none⟩)) 1).run Try.prog w = .ok (.pointer (some ⟨g, 1, none⟩)) w := by go_simp
theorem fld56_2 (g : Nat) (w : World) : (Instr.fieldAt 56 (.pointer (some ⟨g, 0, none⟩)) 2).run Try.prog w = .ok (.pointer (some ⟨g, 2, none⟩)) w := by go_simp
theorem fld56_3 (g : Nat) (w : World) : (Instr.fieldAt 56 (.pointer (some ⟨g, 0, none⟩)) 3).run Try.prog w = .ok (.pointer (some ⟨g, 3, none⟩)) w := by go_simp
theorem fld56_4 (g : Nat) (w : World) : (Instr.fieldAt 56 (.pointer (some ⟨g, 0, none⟩)) 4).run Try.prog w = .ok (.pointer (some ⟨g, 4, none⟩)) w := by go_simp
theorem fld56_5 (g : Nat) (w : World) : (Instr.fieldAt 56 (.pointer (some ⟨g, 0, none⟩)) 5).run Try.prog w = .ok (.pointer (some ⟨g, 5, none⟩)) w := by go_simp
theorem fld56_6 (g : Nat) (w : World) : (Instr.fieldAt 56 (.pointer (some ⟨g, 0, none⟩)) 6).run Try.prog w = .ok (.pointer (some ⟨g, 6, none⟩)) w := by go_simp
theorem fld56_7 (g : Nat) (w : World) : (Instr.fieldAt 56 (.pointer (some ⟨g, 0, none⟩)) 7).run Try.prog w = .ok (.pointer (some ⟨g, 7, none⟩)) w := by go_simp
theorem fld56_8 (g : Nat) (w : World) : (Instr.fieldAt 56 (.pointer (some ⟨g, 0, none⟩)) 8).run Try.prog w = .ok (.pointer (some ⟨g, 8, none⟩)) w := by go_simp
theorem fld56_9 (g : Nat) (w : World) : (Instr.fieldAt 56 (.pointer (some ⟨g, 0, none⟩)) 9).run Try.prog w = .ok (.pointer (some ⟨g, 9, none⟩)) w := by go_simp
theorem fld56_10 (g : Nat) (w : World) : (Instr.fieldAt 56 (.pointer (some ⟨g, 0, none⟩)) 10).run Try.prog w = .ok (.pointer (some ⟨g, 10, none⟩)) w := by go_simp
theorem fld56_11 (g : Nat) (w : World) : (Instr.fieldAt 56 (.pointer (some ⟨g, 0, none⟩)) 11).run Try.prog w = .ok (.pointer (some ⟨g, 11, none⟩)) w := by go_simp
theorem fld56_12 (g : Nat) (w : World) : (Instr.fieldAt 56 (.pointer (some ⟨g, 0, none⟩)) 12).run Try.prog w = .ok (.pointer (some ⟨g, 12, none⟩)) w := by go_simp
theorem fld56_13 (g : Nat) (w : World) : (Instr.fieldAt 56 (.pointer (some ⟨g, 0, none⟩)) 13).run Try.prog w = .ok (.pointer (some ⟨g, 13, none⟩)) w := by go_simp
theorem fld56_14 (g : Nat) (w : World) : (Instr.fieldAt 56 (.pointer (some ⟨g, 0, none⟩)) 14).run Try.prog w = .ok (.pointer (some ⟨g, 14, none⟩)) w := by go_simp
theorem fld56_15 (g : Nat) (w : World) : (Instr.fieldAt 56 (.pointer (some ⟨g, 0, none⟩)) 15).run Try.prog w = .ok (.pointer (some ⟨g, 15, none⟩)) w := by go_simp
theorem ld53 {p : Addr} {u : Value} {w : World} (h : w.cell? p = some u) : (Instr.loadAt 53 (.pointer (some p))).run Try.prog w = .ok u w := by
 go_simp
theorem ld54 {p : Addr} {u : Value} {w : World} (h : w.cell? p = some u) : (Instr.loadAt 54 (.pointer (some p))).run Try.prog w = .ok u w := by
 go_simp
theorem bneq3 (a b : Int) (w : World) : (binOp .neq 3 (.int .i64 a) (.int .i64 b)).run Try.prog w = .ok (.bool (a != b)) w := by go_simp
theorem bneq43 (a b : Int) (w : World) : (binOp .neq 43 (.int .u32 a) (.int .u32 b)).run Try.prog w = .ok (.bool (a != b)) w := by go_simp
theorem bneq45 (a b : Int) (w : World) : (binOp .neq 45 (.int .u64 a) (.int .u64 b)).run Try.prog w = .ok (.bool (a != b)) w := by go_simp
theorem bneq42 (a b : Int) (w : World) : (binOp .neq 42 (.int .u16 a) (.int .u16 b)).run Try.prog w = .ok (.bool (a != b)) w := by go_simp
theorem bneq5 (a b : Int) (w : World) : (binOp .neq 5 (.int .u8 a) (.int .u8 b)).run Try.prog w = .ok (.bool (a != b)) w := by go_simp
theorem bneq9 (s t : ByteArray) (w : World) : (binOp .neq 9 (.string s) (.string t)).run Try.prog w = .ok (.bool (!(s.toList == t.toList))) w := by go_simp
noncomputable def sameB (p q : Pk) : Bool := @decide (p = q) (Classical.propDecidable _)
theorem Wx {p q : Pk} (h : p = q) : sameB p q = true := by unfold sameB; exact @decide_eq_true _ (Classical.propDecidable _) h
theorem Xq {p q : Pk} (h : p ≠ q) : sameB p q = false := by unfold sameB; exact @decide_eq_false _ (Classical.propDecidable _) h
theorem same_scal (kind : Int) (ZA : Int) (ZC : Int) (ZN : Int) (ZP : Int) (ZI : Int) (ZJ : Int) (base : Int) (ref : Int) (count : Int) (name : ByteArray) (ZE : List Rp) (ZG : List Int) (ZH : List Int) (ZF : List Int) (ZB : List Wn) (kind' : Int) (YB : Int) (YW : Int) (XY : Int) (XZ : Int) (Yx : Int) (Yy : Int) (base' : Int) (ref' : Int) (YX : Int) (name' : ByteArray) (Yg : List Rp) (Yc : List Int) (Yd : List Int) (Ye : List Int) (YE : List Wn) (c : Bool) (h : c = (kind != kind' || ZA != YB || ZC != YW || ZN != XY || ZP != XZ || ZI != Yx || ZJ != Yy || !(name.toList == name'.toList) || base != base' || ref != ref' || count != YX)) :
  (c = true -> (⟨kind, ZA, ZC, ZN, ZP, ZI, ZJ, ZE, name, ZG, ZH, base, ref, count, ZF, ZB⟩ : Pk) ≠ ⟨kind', YB, YW, XY, XZ, Yx, Yy, Yg, name', Yc, Yd, base', ref', YX, Ye, YE⟩) /\ (c = false -> kind = kind' /\ ZA = YB /\ ZC = YW /\ ZN = XY /\ ZP = XZ /\ ZI = Yx /\ ZJ = Yy /\ name = name' /\ base = base' /\ ref = ref' /\ count = YX) := by
 constructor
 ·intro hc e
  rw [hc] at h
  injection e with e0 e1 e2 e3 e4 e5 e6 e7 e8 e9 e10 e11 e12 e13 e14 e15
  subst e0 e1 e2 e3 e4 e5 e6 e7 e8 e9 e10 e11 e12 e13 e14 e15
  simp at h
 intro hc
 rw [hc] at h
 have h := h.symm
 simp only [Bool.or_eq_false_iff, bne_eq_false_iff_eq, Bool.not_eq_false', beq_iff_eq, ByteArray.toList_eq] at h
 obtain ⟨⟨⟨⟨⟨⟨⟨⟨⟨⟨h1, h2⟩, h3⟩, h4⟩, h5⟩, h6⟩, h7⟩, h8⟩, h9⟩, h10⟩, h11⟩ := h
 exact ⟨h1, h2, h3, h4, h5, h6, h7, ls_inj h8, h9, h10, h11⟩
theorem same_len {ZE Yg : List Rp} {ZG ZH ZF Yc Yd Ye : List Int} {ZB YE : List Wn} (c : Bool) (h : c = ((ZE.length : Int) != (Yg.length : Int) || (ZG.length : Int) != (Yc.length : Int) || (ZH.length : Int) != (Yd.length : Int) || (ZF.length : Int) != (Ye.length : Int) || (ZB.length : Int) != (YE.length : Int))) :
  (c = true -> ¬ (ZE = Yg /\ ZG = Yc /\ ZH = Yd /\ ZF = Ye /\ ZB = YE)) /\ (c = false -> ZE.length = Yg.length /\ ZG.length = Yc.length /\ ZH.length = Yd.length /\ ZF.length = Ye.length /\ ZB.length = YE.length) := by
 constructor
 ·rintro hc ⟨rfl, rfl, rfl, rfl, rfl⟩
  rw [hc] at h
  simp at h
 intro hc
 rw [hc] at h
 have h := h.symm
 simp only [Bool.or_eq_false_iff, bne_eq_false_iff_eq] at h
 omega
theorem Wy {α : Type} {l m : List α} (h : l.length = m.length) (he : ∀ j (h1 : j < l.length) (h2 : j < m.length), l[j] = m[j]) : l = m := List.ext_getElem h he
set_option maxRecDepth 100000 in
set_option maxHeartbeats 20000000 in
theorem same32 (I : Zh) (M : List Zt) (w : World) (kind : Int) (ZA : Int) (ZC : Int) (ZN : Int) (ZP : Int) (ZI : Int) (ZJ : Int) (base : Int) (ref : Int) (count : Int) (name : ByteArray) (ZE : List Rp) (rA : Option Addr) (rz : Nat) (ZG : List Int) (sA : Option Addr) (sz : Nat) (ZH : List Int) (qA : Option Addr) (qz : Nat) (ZF : List Int) (aA : Option Addr) (az : Nat) (ZB : List Wn) (wA : Option Addr) (wz : Nat) (kind' : Int) (YB : Int) (YW : Int) (XY : Int) (XZ : Int) (Yx : Int) (Yy : Int) (base' : Int) (ref' : Int) (YX : Int) (name' : ByteArray) (Yg : List Rp) (rA' : Option Addr) (rz' : Nat) (Yc : List Int) (sA' : Option Addr) (sz' : Nat) (Yd : List Int) (qA' : Option Addr) (qz' : Nat) (Ye : List Int) (aA' : Option Addr) (az' : Nat) (YE : List Wn) (wA' : Option Addr) (wz' : Nat) (kr1 : Cells I rA (flat Yt ZE)) (_lr1 : ZE.length <= 140737488351232) (kr2 : Cells I rA' (flat Yt Yg)) (_lr2 : Yg.length <= 140737488351232) (ks1 : Cells I sA (flat Xd ZG)) (_ls1 : ZG.length <= 140737488351232) (ks2 : Cells I sA' (flat Xd Yc)) (_ls2 : Yc.length <= 140737488351232) (kq1 : Cells I qA (flat Yp ZH)) (_lq1 : ZH.length <= 140737488351232) (kq2 : Cells I qA' (flat Yp Yd)) (_lq2 : Yd.length <= 140737488351232) (ka1 : Cells I aA (flat XC ZF)) (_la1 : ZF.length <= 140737488351232) (ka2 : Cells I aA' (flat XC Ye)) (_la2 : Ye.length <= 140737488351232) (kw1 : Cells I wA (flat WO ZB)) (_lw1 : ZB.length <= 140737488351232) (kw2 : Cells I wA' (flat WO YE)) (_lw2 : YE.length <= 140737488351232) (ZX : St I M w) :
  Calls Try.prog 32 #[.agg #[.int .i64 kind, .int .u32 ZA, .int .u32 ZC, .int .u64 ZN, .int .u32 ZP, .int .u32 ZI, .int .u32 ZJ, .slice rA ZE.length rz, .string name, .slice sA ZG.length sz, .slice qA ZH.length qz, .int .u16 base, .int .u32 ref, .int .u8 count, .slice aA ZF.length az, .slice wA ZB.length wz], .agg #[.int .i64 kind', .int .u32 YB, .int .u32 YW, .int .u64 XY, .int .u32 XZ, .int .u32 Yx, .int .u32 Yy, .slice rA' Yg.length rz', .string name', .slice sA' Yc.length sz', .slice qA' Yd.length qz', .int .u16 base', .int .u32 ref', .int .u8 YX, .slice aA' Ye.length az', .slice wA' YE.length wz']] w (YR I (fun r J M' => I = J /\ r = .bool (sameB ⟨kind, ZA, ZC, ZN, ZP, ZI, ZJ, ZE, name, ZG, ZH, base, ref, count, ZF, ZB⟩ ⟨kind', YB, YW, XY, XZ, Yx, Yy, Yg, name', Yc, Yd, base', ref', YX, Ye, YE⟩) /\ M' = M)) := by
 have ZY := (ZX.alloc 56 #[.int .i64 kind, .int .u32 ZA, .int .u32 ZC, .int .u64 ZN, .int .u32 ZP, .int .u32 ZI, .int .u32 ZJ, .slice rA ZE.length rz, .string name, .slice sA ZG.length sz, .slice qA ZH.length qz, .int .u16 base, .int .u32 ref, .int .u8 count, .slice aA ZF.length az, .slice wA ZB.length wz]).alloc 56 #[.int .i64 kind', .int .u32 YB, .int .u32 YW, .int .u64 XY, .int .u32 XZ, .int .u32 Yx, .int .u32 Yy, .slice rA' Yg.length rz', .string name', .slice sA' Yc.length sz', .slice qA' Yd.length qz', .int .u16 base', .int .u32 ref', .int .u8 YX, .slice aA' Ye.length az', .slice wA' YE.length wz']
 simp only [World.size_alloc] at ZY
 have HR := VL (And.intro kr1 kr2)
 have HS := VL (And.intro ks1 ks2)
 have HQ := VL (And.intro kq1 kq2)
 have HA := VL (And.intro ka1 ka2)
 have HW := VL (And.intro kw1 kw2)
 obtain ⟨S, hS⟩ : ∃ S, S = sameB ⟨kind, ZA, ZC, ZN, ZP, ZI, ZJ, ZE, name, ZG, ZH, base, ref, count, ZF, ZB⟩ ⟨kind', YB, YW, XY, XZ, Yx, Yy, Yg, name', Yc, Yd, base', ref', YX, Ye, YE⟩ := ⟨_, rfl⟩
 have YV := VL hS
 rw [<- hS]
 clear ZX hS kr1 kr2 ks1 ks2 kq1 kq2 ka1 ka2 kw1 kw2
 go_enter Try.func32, Try.ntmps32
 go_upto_region 1 with fail
 obtain ⟨q1, hq1⟩ : ∃ q, q = w.heap.size := ⟨_, rfl⟩
 obtain ⟨q2, hq2⟩ : ∃ q, q = q1 + 1 := ⟨_, rfl⟩
 rw [<- hq1, <- hq2] at ZY ⊢
 generalize World.alloc (World.alloc w _) _ = W at ZY ⊢
 clear hq1 hq2
 obtain ⟨hq1, hf1, hl1⟩ := ZO.all (ZY.at 1 rfl)
 obtain ⟨hq2, hf2, hl2⟩ := ZO.all (ZY.at 0 rfl)
 have HS1 := VL ZY
 clear ZY
 refine wp_region_lit ?_
 refine ZZ (true) 56 _ 0 rfl ⟨q1, 0, none⟩ ⟨q1, 0, none⟩ rfl (fun _ => rfl) (fld56_0 _ _) ?_
 go_frame
 refine Zk (true) 3 _ rfl ⟨q1, 0, none⟩ (.int .i64 kind) rfl (fun _ => rfl) (ld3 (show _ = some (.int .i64 kind : Value) from hq1 0)) ?_
 go_frame
 refine ZZ (true) 56 _ 0 rfl ⟨q2, 0, none⟩ ⟨q2, 0, none⟩ rfl (fun _ => rfl) (fld56_0 _ _) ?_
 go_frame
 refine Zk (true) 3 _ rfl ⟨q2, 0, none⟩ (.int .i64 kind') rfl (fun _ => rfl) (ld3 (show _ = some (.int .i64 kind' : Value) from hq2 0)) ?_
 go_frame
 refine Y3 (true) .neq 3 _ _ _ rfl (.int .i64 kind) (.int .i64 kind') (.bool (kind != kind')) rfl (fun _ => rfl) (fun _ => rfl) (Yj _ _ _ _ _ _ _ _) (bneq3 _ _ _) ?_
 go_frame
 obtain ⟨c1, Zc⟩ : ∃ c : Bool, c = (kind != kind') := ⟨_, rfl⟩
 rw [<- Zc]
 have Hc1 := VL Zc
 clear Zc
 refine Yn _ rfl rfl (.bool c1) rfl ?_
 go_frame
 refine ZZ ((!c1)) 56 _ 1 rfl ⟨q1, 0, none⟩ ⟨q1, 1, none⟩ (by cases c1 <;> rfl) (fun h => by cases c1 <;> first | rfl | cases h) (fld56_1 _ _) ?_
 go_frame
 refine Zk ((!c1)) 43 _ rfl ⟨q1, 1, none⟩ (.int .u32 ZA) (by cases c1 <;> rfl) (fun h => by cases c1 <;> first | rfl | cases h) (WQ (show _ = some (.int .u32 ZA : Value) from hq1 1)) ?_
 go_frame
 refine ZZ ((!c1)) 56 _ 1 rfl ⟨q2, 0, none⟩ ⟨q2, 1, none⟩ (by cases c1 <;> rfl) (fun h => by cases c1 <;> first | rfl | cases h) (fld56_1 _ _) ?_
 go_frame
 refine Zk ((!c1)) 43 _ rfl ⟨q2, 1, none⟩ (.int .u32 YB) (by cases c1 <;> rfl) (fun h => by cases c1 <;> first | rfl | cases h) (WQ (show _ = some (.int .u32 YB : Value) from hq2 1)) ?_
 go_frame
 refine Y3 ((!c1)) .neq 43 _ _ _ rfl (.int .u32 ZA) (.int .u32 YB) (.bool (ZA != YB)) (by cases c1 <;> rfl) (fun h => by cases c1 <;> first | rfl | cases h) (fun h => by cases c1 <;> first | rfl | cases h) (Yj _ _ _ _ _ _ _ _) (bneq43 _ _ _) ?_
 go_frame
 refine Wh _ _ rfl rfl c1 (ZA != YB) rfl (fun h => by cases c1 <;> first | rfl | cases h) ?_
 go_frame
 obtain ⟨c2, hc2⟩ : ∃ c : Bool, c = (c1 || ZA != YB) := ⟨_, rfl⟩
 rw [<- hc2]
 have Hc2 := VL hc2
 clear hc2
 refine Yn _ rfl rfl (.bool c2) rfl ?_
 go_frame
 refine ZZ ((!c2)) 56 _ 2 rfl ⟨q1, 0, none⟩ ⟨q1, 2, none⟩ (by cases c2 <;> rfl) (fun h => by cases c2 <;> first | rfl | cases h) (fld56_2 _ _) ?_
 go_frame
 refine Zk ((!c2)) 43 _ rfl ⟨q1, 2, none⟩ (.int .u32 ZC) (by cases c2 <;> rfl) (fun h => by cases c2 <;> first | rfl | cases h) (WQ (show _ = some (.int .u32 ZC : Value) from hq1 2)) ?_
 go_frame
 refine ZZ ((!c2)) 56 _ 2 rfl ⟨q2, 0, none⟩ ⟨q2, 2, none⟩ (by cases c2 <;> rfl) (fun h => by cases c2 <;> first | rfl | cases h) (fld56_2 _ _) ?_
 go_frame
 refine Zk ((!c2)) 43 _ rfl ⟨q2, 2, none⟩ (.int .u32 YW) (by cases c2 <;> rfl) (fun h => by cases c2 <;> first | rfl | cases h) (WQ (show _ = some (.int .u32 YW : Value) from hq2 2)) ?_
 go_frame
 refine Y3 ((!c2)) .neq 43 _ _ _ rfl (.int .u32 ZC) (.int .u32 YW) (.bool (ZC != YW)) (by cases c2 <;> rfl) (fun h => by cases c2 <;> first | rfl | cases h) (fun h => by cases c2 <;> first | rfl | cases h) (Yj _ _ _ _ _ _ _ _) (bneq43 _ _ _) ?_
 go_frame
 refine Wh _ _ rfl rfl c2 (ZC != YW) rfl (fun h => by cases c2 <;> first | rfl | cases h) ?_
 go_frame
 obtain ⟨c3, hc3⟩ : ∃ c : Bool, c = (c2 || ZC != YW) := ⟨_, rfl⟩
 rw [<- hc3]
 have Hc3 := VL hc3
 clear hc3
 refine Yn _ rfl rfl (.bool c3) rfl ?_
 go_frame
 refine ZZ ((!c3)) 56 _ 3 rfl ⟨q1, 0, none⟩ ⟨q1, 3, none⟩ (by cases c3 <;> rfl) (fun h => by cases c3 <;> first | rfl | cases h) (fld56_3 _ _) ?_
 go_frame
 refine Zk ((!c3)) 45 _ rfl ⟨q1, 3, none⟩ (.int .u64 ZN) (by cases c3 <;> rfl) (fun h => by cases c3 <;> first | rfl | cases h) (ld45 (show _ = some (.int .u64 ZN : Value) from hq1 3)) ?_
 go_frame
 refine ZZ ((!c3)) 56 _ 3 rfl ⟨q2, 0, none⟩ ⟨q2, 3, none⟩ (by cases c3 <;> rfl) (fun h => by cases c3 <;> first | rfl | cases h) (fld56_3 _ _) ?_
 go_frame
 refine Zk ((!c3)) 45 _ rfl ⟨q2, 3, none⟩ (.int .u64 XY) (by cases c3 <;> rfl) (fun h => by cases c3 <;> first | rfl | cases h) (ld45 (show _ = some (.int .u64 XY : Value) from hq2 3)) ?_
 go_frame
 refine Y3 ((!c3)) .neq 45 _ _ _ rfl (.int .u64 ZN) (.int .u64 XY) (.bool (ZN != XY)) (by cases c3 <;> rfl) (fun h => by cases c3 <;> first | rfl | cases h) (fun h => by cases c3 <;> first | rfl | cases h) (Yj _ _ _ _ _ _ _ _) (bneq45 _ _ _) ?_
 go_frame
 refine Wh _ _ rfl rfl c3 (ZN != XY) rfl (fun h => by cases c3 <;> first | rfl | cases h) ?_
 go_frame
 obtain ⟨c4, hc4⟩ : ∃ c : Bool, c = (c3 || ZN != XY) := ⟨_, rfl⟩
 rw [<- hc4]
 have Hc4 := VL hc4
 clear hc4
 refine Yn _ rfl rfl (.bool c4) rfl ?_
 go_frame
 refine ZZ ((!c4)) 56 _ 4 rfl ⟨q1, 0, none⟩ ⟨q1, 4, none⟩ (by cases c4 <;> rfl) (fun h => by cases c4 <;> first | rfl | cases h) (fld56_4 _ _) ?_
 go_frame
 refine Zk ((!c4)) 43 _ rfl ⟨q1, 4, none⟩ (.int .u32 ZP) (by cases c4 <;> rfl) (fun h => by cases c4 <;> first | rfl | cases h) (WQ (show _ = some (.int .u32 ZP : Value) from hq1 4)) ?_
 go_frame
 refine ZZ ((!c4)) 56 _ 4 rfl ⟨q2, 0, none⟩ ⟨q2, 4, none⟩ (by cases c4 <;> rfl) (fun h => by cases c4 <;> first | rfl | cases h) (fld56_4 _ _) ?_
 go_frame
 refine Zk ((!c4)) 43 _ rfl ⟨q2, 4, none⟩ (.int .u32 XZ) (by cases c4 <;> rfl) (fun h => by cases c4 <;> first | rfl | cases h) (WQ (show _ = some (.int .u32 XZ : Value) from hq2 4)) ?_
 go_frame
 refine Y3 ((!c4)) .neq 43 _ _ _ rfl (.int .u32 ZP) (.int .u32 XZ) (.bool (ZP != XZ)) (by cases c4 <;> rfl) (fun h => by cases c4 <;> first | rfl | cases h) (fun h => by cases c4 <;> first | rfl | cases h) (Yj _ _ _ _ _ _ _ _) (bneq43 _ _ _) ?_
 go_frame
 refine Wh _ _ rfl rfl c4 (ZP != XZ) rfl (fun h => by cases c4 <;> first | rfl | cases h) ?_
 go_frame
 obtain ⟨c5, hc5⟩ : ∃ c : Bool, c = (c4 || ZP != XZ) := ⟨_, rfl⟩
 rw [<- hc5]
 have Hc5 := VL hc5
 clear hc5
 refine Yn _ rfl rfl (.bool c5) rfl ?_
 go_frame
 refine ZZ ((!c5)) 56 _ 5 rfl ⟨q1, 0, none⟩ ⟨q1, 5, none⟩ (by cases c5 <;> rfl) (fun h => by cases c5 <;> first | rfl | cases h) (fld56_5 _ _) ?_
 go_frame
 refine Zk ((!c5)) 43 _ rfl ⟨q1, 5, none⟩ (.int .u32 ZI) (by cases c5 <;> rfl) (fun h => by cases c5 <;> first | rfl | cases h) (WQ (show _ = some (.int .u32 ZI : Value) from hq1 5)) ?_
 go_frame
 refine ZZ ((!c5)) 56 _ 5 rfl ⟨q2, 0, none⟩ ⟨q2, 5, none⟩ (by cases c5 <;> rfl) (fun h => by cases c5 <;> first | rfl | cases h) (fld56_5 _ _) ?_
 go_frame
 refine Zk ((!c5)) 43 _ rfl ⟨q2, 5, none⟩ (.int .u32 Yx) (by cases c5 <;> rfl) (fun h => by cases c5 <;> first | rfl | cases h) (WQ (show _ = some (.int .u32 Yx : Value) from hq2 5)) ?_
 go_frame
 refine Y3 ((!c5)) .neq 43 _ _ _ rfl (.int .u32 ZI) (.int .u32 Yx) (.bool (ZI != Yx)) (by cases c5 <;> rfl) (fun h => by cases c5 <;> first | rfl | cases h) (fun h => by cases c5 <;> first | rfl | cases h) (Yj _ _ _ _ _ _ _ _) (bneq43 _ _ _) ?_
 go_frame
 refine Wh _ _ rfl rfl c5 (ZI != Yx) rfl (fun h => by cases c5 <;> first | rfl | cases h) ?_
 go_frame
 obtain ⟨c6, hc6⟩ : ∃ c : Bool, c = (c5 || ZI != Yx) := ⟨_, rfl⟩
 rw [<- hc6]
 have Hc6 := VL hc6
 clear hc6
 refine Yn _ rfl rfl (.bool c6) rfl ?_
 go_frame
 refine ZZ ((!c6)) 56 _ 6 rfl ⟨q1, 0, none⟩ ⟨q1, 6, none⟩ (by cases c6 <;> rfl) (fun h => by cases c6 <;> first | rfl | cases h) (fld56_6 _ _) ?_
 go_frame
 refine Zk ((!c6)) 43 _ rfl ⟨q1, 6, none⟩ (.int .u32 ZJ) (by cases c6 <;> rfl) (fun h => by cases c6 <;> first | rfl | cases h) (WQ (show _ = some (.int .u32 ZJ : Value) from hq1 6)) ?_
 go_frame
 refine ZZ ((!c6)) 56 _ 6 rfl ⟨q2, 0, none⟩ ⟨q2, 6, none⟩ (by cases c6 <;> rfl) (fun h => by cases c6 <;> first | rfl | cases h) (fld56_6 _ _) ?_
 go_frame
 refine Zk ((!c6)) 43 _ rfl ⟨q2, 6, none⟩ (.int .u32 Yy) (by cases c6 <;> rfl) (fun h => by cases c6 <;> first | rfl | cases h) (WQ (show _ = some (.int .u32 Yy : Value) from hq2 6)) ?_
 go_frame
 refine Y3 ((!c6)) .neq 43 _ _ _ rfl (.int .u32 ZJ) (.int .u32 Yy) (.bool (ZJ != Yy)) (by cases c6 <;> rfl) (fun h => by cases c6 <;> first | rfl | cases h) (fun h => by cases c6 <;> first | rfl | cases h) (Yj _ _ _ _ _ _ _ _) (bneq43 _ _ _) ?_
 go_frame
 refine Wh _ _ rfl rfl c6 (ZJ != Yy) rfl (fun h => by cases c6 <;> first | rfl | cases h) ?_
 go_frame
 obtain ⟨c7, hc7⟩ : ∃ c : Bool, c = (c6 || ZJ != Yy) := ⟨_, rfl⟩
 rw [<- hc7]
 have Hc7 := VL hc7
 clear hc7
 refine Yn _ rfl rfl (.bool c7) rfl ?_
 go_frame
 refine ZZ ((!c7)) 56 _ 8 rfl ⟨q1, 0, none⟩ ⟨q1, 8, none⟩ (by cases c7 <;> rfl) (fun h => by cases c7 <;> first | rfl | cases h) (fld56_8 _ _) ?_
 go_frame
 refine Zk ((!c7)) 9 _ rfl ⟨q1, 8, none⟩ (.string name) (by cases c7 <;> rfl) (fun h => by cases c7 <;> first | rfl | cases h) (ld9 (show _ = some (.string name : Value) from hq1 8)) ?_
 go_frame
 refine ZZ ((!c7)) 56 _ 8 rfl ⟨q2, 0, none⟩ ⟨q2, 8, none⟩ (by cases c7 <;> rfl) (fun h => by cases c7 <;> first | rfl | cases h) (fld56_8 _ _) ?_
 go_frame
 refine Zk ((!c7)) 9 _ rfl ⟨q2, 8, none⟩ (.string name') (by cases c7 <;> rfl) (fun h => by cases c7 <;> first | rfl | cases h) (ld9 (show _ = some (.string name' : Value) from hq2 8)) ?_
 go_frame
 refine Y3 ((!c7)) .neq 9 _ _ _ rfl (.string name) (.string name') (.bool (!(name.toList == name'.toList))) (by cases c7 <;> rfl) (fun h => by cases c7 <;> first | rfl | cases h) (fun h => by cases c7 <;> first | rfl | cases h) (eqg_str _ _ _ _ _ _) (bneq9 _ _ _) ?_
 go_frame
 refine Wh _ _ rfl rfl c7 (!(name.toList == name'.toList)) rfl (fun h => by cases c7 <;> first | rfl | cases h) ?_
 go_frame
 obtain ⟨c8, hc8⟩ : ∃ c : Bool, c = (c7 || !(name.toList == name'.toList)) := ⟨_, rfl⟩
 rw [<- hc8]
 have Hc8 := VL hc8
 clear hc8
 refine Yn _ rfl rfl (.bool c8) rfl ?_
 go_frame
 refine ZZ ((!c8)) 56 _ 11 rfl ⟨q1, 0, none⟩ ⟨q1, 11, none⟩ (by cases c8 <;> rfl) (fun h => by cases c8 <;> first | rfl | cases h) (fld56_11 _ _) ?_
 go_frame
 refine Zk ((!c8)) 42 _ rfl ⟨q1, 11, none⟩ (.int .u16 base) (by cases c8 <;> rfl) (fun h => by cases c8 <;> first | rfl | cases h) (ld42 (show _ = some (.int .u16 base : Value) from hq1 11)) ?_
 go_frame
 refine ZZ ((!c8)) 56 _ 11 rfl ⟨q2, 0, none⟩ ⟨q2, 11, none⟩ (by cases c8 <;> rfl) (fun h => by cases c8 <;> first | rfl | cases h) (fld56_11 _ _) ?_
 go_frame
 refine Zk ((!c8)) 42 _ rfl ⟨q2, 11, none⟩ (.int .u16 base') (by cases c8 <;> rfl) (fun h => by cases c8 <;> first | rfl | cases h) (ld42 (show _ = some (.int .u16 base' : Value) from hq2 11)) ?_
 go_frame
 refine Y3 ((!c8)) .neq 42 _ _ _ rfl (.int .u16 base) (.int .u16 base') (.bool (base != base')) (by cases c8 <;> rfl) (fun h => by cases c8 <;> first | rfl | cases h) (fun h => by cases c8 <;> first | rfl | cases h) (Yj _ _ _ _ _ _ _ _) (bneq42 _ _ _) ?_
 go_frame
 refine Wh _ _ rfl rfl c8 (base != base') rfl (fun h => by cases c8 <;> first | rfl | cases h) ?_
 go_frame
 obtain ⟨c9, hc9⟩ : ∃ c : Bool, c = (c8 || base != base') := ⟨_, rfl⟩
 rw [<- hc9]
 have Hc9 := VL hc9
 clear hc9
 refine Yn _ rfl rfl (.bool c9) rfl ?_
 go_frame
 refine ZZ ((!c9)) 56 _ 12 rfl ⟨q1, 0, none⟩ ⟨q1, 12, none⟩ (by cases c9 <;> rfl) (fun h => by cases c9 <;> first | rfl | cases h) (fld56_12 _ _) ?_
 go_frame
 refine Zk ((!c9)) 43 _ rfl ⟨q1, 12, none⟩ (.int .u32 ref) (by cases c9 <;> rfl) (fun h => by cases c9 <;> first | rfl | cases h) (WQ (show _ = some (.int .u32 ref : Value) from hq1 12)) ?_
 go_frame
 refine ZZ ((!c9)) 56 _ 12 rfl ⟨q2, 0, none⟩ ⟨q2, 12, none⟩ (by cases c9 <;> rfl) (fun h => by cases c9 <;> first | rfl | cases h) (fld56_12 _ _) ?_
 go_frame
 refine Zk ((!c9)) 43 _ rfl ⟨q2, 12, none⟩ (.int .u32 ref') (by cases c9 <;> rfl) (fun h => by cases c9 <;> first | rfl | cases h) (WQ (show _ = some (.int .u32 ref' : Value) from hq2 12)) ?_
 go_frame
 refine Y3 ((!c9)) .neq 43 _ _ _ rfl (.int .u32 ref) (.int .u32 ref') (.bool (ref != ref')) (by cases c9 <;> rfl) (fun h => by cases c9 <;> first | rfl | cases h) (fun h => by cases c9 <;> first | rfl | cases h) (Yj _ _ _ _ _ _ _ _) (bneq43 _ _ _) ?_
 go_frame
 refine Wh _ _ rfl rfl c9 (ref != ref') rfl (fun h => by cases c9 <;> first | rfl | cases h) ?_
 go_frame
 obtain ⟨c10, hc10⟩ : ∃ c : Bool, c = (c9 || ref != ref') := ⟨_, rfl⟩
 rw [<- hc10]
 have Hc10 := VL hc10
 clear hc10
 refine Yn _ rfl rfl (.bool c10) rfl ?_
 go_frame
 refine ZZ ((!c10)) 56 _ 13 rfl ⟨q1, 0, none⟩ ⟨q1, 13, none⟩ (by cases c10 <;> rfl) (fun h => by cases c10 <;> first | rfl | cases h) (fld56_13 _ _) ?_
 go_frame
 refine Zk ((!c10)) 5 _ rfl ⟨q1, 13, none⟩ (.int .u8 count) (by cases c10 <;> rfl) (fun h => by cases c10 <;> first | rfl | cases h) (ld5 (show _ = some (.int .u8 count : Value) from hq1 13)) ?_
 go_frame
 refine ZZ ((!c10)) 56 _ 13 rfl ⟨q2, 0, none⟩ ⟨q2, 13, none⟩ (by cases c10 <;> rfl) (fun h => by cases c10 <;> first | rfl | cases h) (fld56_13 _ _) ?_
 go_frame
 refine Zk ((!c10)) 5 _ rfl ⟨q2, 13, none⟩ (.int .u8 YX) (by cases c10 <;> rfl) (fun h => by cases c10 <;> first | rfl | cases h) (ld5 (show _ = some (.int .u8 YX : Value) from hq2 13)) ?_
 go_frame
 refine Y3 ((!c10)) .neq 5 _ _ _ rfl (.int .u8 count) (.int .u8 YX) (.bool (count != YX)) (by cases c10 <;> rfl) (fun h => by cases c10 <;> first | rfl | cases h) (fun h => by cases c10 <;> first | rfl | cases h) (Yj _ _ _ _ _ _ _ _) (bneq5 _ _ _) ?_
 go_frame
 refine Wh _ _ rfl rfl c10 (count != YX) rfl (fun h => by cases c10 <;> first | rfl | cases h) ?_
 go_frame
 obtain ⟨c11, hc11⟩ : ∃ c : Bool, c = (c10 || count != YX) := ⟨_, rfl⟩
 rw [<- hc11]
 have Hc11 := VL hc11
 clear hc11
 have HX := VL (show c11 = (kind != kind' || ZA != YB || ZC != YW || ZN != XY || ZP != XZ || ZI != Yx || ZJ != Yy || !(name.toList == name'.toList) || base != base' || ref != ref' || count != YX) from by rw [Hc11.out, Hc10.out, Hc9.out, Hc8.out, Hc7.out, Hc6.out, Hc5.out, Hc4.out, Hc3.out, Hc2.out, Hc1.out])
 clear Hc1 Hc2 Hc3 Hc4 Hc5 Hc6 Hc7 Hc8 Hc9 Hc10 Hc11
 generalize c11 = d1 at HX ⊢
 cases d1
 case true =>
  have HE := VL (YV.out.trans (Xq ((same_scal kind ZA ZC ZN ZP ZI ZJ base ref count name ZE ZG ZH ZF ZB kind' YB YW XY XZ Yx Yy base' ref' YX name' Yg Yc Yd Ye YE true HX.out).1 rfl)))
  go_wp2
  go_returns
  exact YR.mk (.refl I) HS1.out.drop.drop ⟨rfl, congrArg Value.bool HE.out.symm, rfl⟩
 case false =>
  have HSC := VL ((same_scal kind ZA ZC ZN ZP ZI ZJ base ref count name ZE ZG ZH ZF ZB kind' YB YW XY XZ Yx Yy base' ref' YX name' Yg Yc Yd Ye YE false HX.out).2 rfl)
  clear HX
  go_upto_region 3 with fail
  refine wp_region_lit ?_
  refine ZZ (true) 56 _ 7 rfl ⟨q1, 0, none⟩ ⟨q1, 7, none⟩ rfl (fun _ => rfl) (fld56_7 _ _) ?_
  go_frame
  refine Zk (true) 53 _ rfl ⟨q1, 7, none⟩ (.slice rA ZE.length rz) rfl (fun _ => rfl) (ld53 (show _ = some (.slice rA ZE.length rz : Value) from hq1 7)) ?_
  go_frame
  refine Xe (true) _ 53 _ rfl Try.underlying53 _ (ZE.length) _ rfl (fun _ => rfl) ?_
  go_frame
  refine ZZ (true) 56 _ 7 rfl ⟨q2, 0, none⟩ ⟨q2, 7, none⟩ rfl (fun _ => rfl) (fld56_7 _ _) ?_
  go_frame
  refine Zk (true) 53 _ rfl ⟨q2, 7, none⟩ (.slice rA' Yg.length rz') rfl (fun _ => rfl) (ld53 (show _ = some (.slice rA' Yg.length rz' : Value) from hq2 7)) ?_
  go_frame
  refine Xe (true) _ 53 _ rfl Try.underlying53 _ (Yg.length) _ rfl (fun _ => rfl) ?_
  go_frame
  refine Y3 (true) .neq 3 _ _ _ rfl (.int .i64 (ZE.length : Int)) (.int .i64 (Yg.length : Int)) (.bool ((ZE.length : Int) != (Yg.length : Int))) rfl (fun _ => rfl) (fun _ => rfl) (Yj _ _ _ _ _ _ _ _) (bneq3 _ _ _) ?_
  go_frame
  obtain ⟨c101, hc101⟩ : ∃ c : Bool, c = ((ZE.length : Int) != (Yg.length : Int)) := ⟨_, rfl⟩
  rw [<- hc101]
  have Hc101 := VL hc101
  clear hc101
  refine Yn _ rfl rfl (.bool c101) rfl ?_
  go_frame
  refine ZZ ((!c101)) 56 _ 9 rfl ⟨q1, 0, none⟩ ⟨q1, 9, none⟩ (by cases c101 <;> rfl) (fun h => by cases c101 <;> first | rfl | cases h) (fld56_9 _ _) ?_
  go_frame
  refine Zk ((!c101)) 47 _ rfl ⟨q1, 9, none⟩ (.slice sA ZG.length sz) (by cases c101 <;> rfl) (fun h => by cases c101 <;> first | rfl | cases h) (ld47 (show _ = some (.slice sA ZG.length sz : Value) from hq1 9)) ?_
  go_frame
  refine Xe ((!c101)) _ 47 _ rfl Try.underlying47 _ (ZG.length) _ (by cases c101 <;> rfl) (fun h => by cases c101 <;> first | rfl | cases h) ?_
  go_frame
  refine ZZ ((!c101)) 56 _ 9 rfl ⟨q2, 0, none⟩ ⟨q2, 9, none⟩ (by cases c101 <;> rfl) (fun h => by cases c101 <;> first | rfl | cases h) (fld56_9 _ _) ?_
  go_frame
  refine Zk ((!c101)) 47 _ rfl ⟨q2, 9, none⟩ (.slice sA' Yc.length sz') (by cases c101 <;> rfl) (fun h => by cases c101 <;> first | rfl | cases h) (ld47 (show _ = some (.slice sA' Yc.length sz' : Value) from hq2 9)) ?_
  go_frame
  refine Xe ((!c101)) _ 47 _ rfl Try.underlying47 _ (Yc.length) _ (by cases c101 <;> rfl) (fun h => by cases c101 <;> first | rfl | cases h) ?_
  go_frame
  refine Y3 ((!c101)) .neq 3 _ _ _ rfl (.int .i64 (ZG.length : Int)) (.int .i64 (Yc.length : Int)) (.bool ((ZG.length : Int) != (Yc.length : Int))) (by cases c101 <;> rfl) (fun h => by cases c101 <;> first | rfl | cases h) (fun h => by cases c101 <;> first | rfl | cases h) (Yj _ _ _ _ _ _ _ _) (bneq3 _ _ _) ?_
  go_frame
  refine Wh _ _ rfl rfl c101 ((ZG.length : Int) != (Yc.length : Int)) rfl (fun h => by cases c101 <;> first | rfl | cases h) ?_
  go_frame
  obtain ⟨c102, hc102⟩ : ∃ c : Bool, c = (c101 || (ZG.length : Int) != (Yc.length : Int)) := ⟨_, rfl⟩
  rw [<- hc102]
  have Hc102 := VL hc102
  clear hc102
  refine Yn _ rfl rfl (.bool c102) rfl ?_
  go_frame
  refine ZZ ((!c102)) 56 _ 10 rfl ⟨q1, 0, none⟩ ⟨q1, 10, none⟩ (by cases c102 <;> rfl) (fun h => by cases c102 <;> first | rfl | cases h) (fld56_10 _ _) ?_
  go_frame
  refine Zk ((!c102)) 44 _ rfl ⟨q1, 10, none⟩ (.slice qA ZH.length qz) (by cases c102 <;> rfl) (fun h => by cases c102 <;> first | rfl | cases h) (ld44 (show _ = some (.slice qA ZH.length qz : Value) from hq1 10)) ?_
  go_frame
  refine Xe ((!c102)) _ 44 _ rfl Try.underlying44 _ (ZH.length) _ (by cases c102 <;> rfl) (fun h => by cases c102 <;> first | rfl | cases h) ?_
  go_frame
  refine ZZ ((!c102)) 56 _ 10 rfl ⟨q2, 0, none⟩ ⟨q2, 10, none⟩ (by cases c102 <;> rfl) (fun h => by cases c102 <;> first | rfl | cases h) (fld56_10 _ _) ?_
  go_frame
  refine Zk ((!c102)) 44 _ rfl ⟨q2, 10, none⟩ (.slice qA' Yd.length qz') (by cases c102 <;> rfl) (fun h => by cases c102 <;> first | rfl | cases h) (ld44 (show _ = some (.slice qA' Yd.length qz' : Value) from hq2 10)) ?_
  go_frame
  refine Xe ((!c102)) _ 44 _ rfl Try.underlying44 _ (Yd.length) _ (by cases c102 <;> rfl) (fun h => by cases c102 <;> first | rfl | cases h) ?_
  go_frame
  refine Y3 ((!c102)) .neq 3 _ _ _ rfl (.int .i64 (ZH.length : Int)) (.int .i64 (Yd.length : Int)) (.bool ((ZH.length : Int) != (Yd.length : Int))) (by cases c102 <;> rfl) (fun h => by cases c102 <;> first | rfl | cases h) (fun h => by cases c102 <;> first | rfl | cases h) (Yj _ _ _ _ _ _ _ _) (bneq3 _ _ _) ?_
  go_frame
  refine Wh _ _ rfl rfl c102 ((ZH.length : Int) != (Yd.length : Int)) rfl (fun h => by cases c102 <;> first | rfl | cases h) ?_
  go_frame
  obtain ⟨c103, hc103⟩ : ∃ c : Bool, c = (c102 || (ZH.length : Int) != (Yd.length : Int)) := ⟨_, rfl⟩
  rw [<- hc103]
  have Hc103 := VL hc103
  clear hc103
  refine Yn _ rfl rfl (.bool c103) rfl ?_
  go_frame
  refine ZZ ((!c103)) 56 _ 14 rfl ⟨q1, 0, none⟩ ⟨q1, 14, none⟩ (by cases c103 <;> rfl) (fun h => by cases c103 <;> first | rfl | cases h) (fld56_14 _ _) ?_
  go_frame
  refine Zk ((!c103)) 48 _ rfl ⟨q1, 14, none⟩ (.slice aA ZF.length az) (by cases c103 <;> rfl) (fun h => by cases c103 <;> first | rfl | cases h) (ld48 (show _ = some (.slice aA ZF.length az : Value) from hq1 14)) ?_
  go_frame
  refine Xe ((!c103)) _ 48 _ rfl Try.underlying48 _ (ZF.length) _ (by cases c103 <;> rfl) (fun h => by cases c103 <;> first | rfl | cases h) ?_
  go_frame
  refine ZZ ((!c103)) 56 _ 14 rfl ⟨q2, 0, none⟩ ⟨q2, 14, none⟩ (by cases c103 <;> rfl) (fun h => by cases c103 <;> first | rfl | cases h) (fld56_14 _ _) ?_
  go_frame
  refine Zk ((!c103)) 48 _ rfl ⟨q2, 14, none⟩ (.slice aA' Ye.length az') (by cases c103 <;> rfl) (fun h => by cases c103 <;> first | rfl | cases h) (ld48 (show _ = some (.slice aA' Ye.length az' : Value) from hq2 14)) ?_
  go_frame
  refine Xe ((!c103)) _ 48 _ rfl Try.underlying48 _ (Ye.length) _ (by cases c103 <;> rfl) (fun h => by cases c103 <;> first | rfl | cases h) ?_
  go_frame
  refine Y3 ((!c103)) .neq 3 _ _ _ rfl (.int .i64 (ZF.length : Int)) (.int .i64 (Ye.length : Int)) (.bool ((ZF.length : Int) != (Ye.length : Int))) (by cases c103 <;> rfl) (fun h => by cases c103 <;> first | rfl | cases h) (fun h => by cases c103 <;> first | rfl | cases h) (Yj _ _ _ _ _ _ _ _) (bneq3 _ _ _) ?_
  go_frame
  refine Wh _ _ rfl rfl c103 ((ZF.length : Int) != (Ye.length : Int)) rfl (fun h => by cases c103 <;> first | rfl | cases h) ?_
  go_frame
  obtain ⟨c104, hc104⟩ : ∃ c : Bool, c = (c103 || (ZF.length : Int) != (Ye.length : Int)) := ⟨_, rfl⟩
  rw [<- hc104]
  have Hc104 := VL hc104
  clear hc104
  refine Yn _ rfl rfl (.bool c104) rfl ?_
  go_frame
  refine ZZ ((!c104)) 56 _ 15 rfl ⟨q1, 0, none⟩ ⟨q1, 15, none⟩ (by cases c104 <;> rfl) (fun h => by cases c104 <;> first | rfl | cases h) (fld56_15 _ _) ?_
  go_frame
  refine Zk ((!c104)) 54 _ rfl ⟨q1, 15, none⟩ (.slice wA ZB.length wz) (by cases c104 <;> rfl) (fun h => by cases c104 <;> first | rfl | cases h) (ld54 (show _ = some (.slice wA ZB.length wz : Value) from hq1 15)) ?_
  go_frame
  refine Xe ((!c104)) _ 54 _ rfl Try.underlying54 _ (ZB.length) _ (by cases c104 <;> rfl) (fun h => by cases c104 <;> first | rfl | cases h) ?_
  go_frame
  refine ZZ ((!c104)) 56 _ 15 rfl ⟨q2, 0, none⟩ ⟨q2, 15, none⟩ (by cases c104 <;> rfl) (fun h => by cases c104 <;> first | rfl | cases h) (fld56_15 _ _) ?_
  go_frame
  refine Zk ((!c104)) 54 _ rfl ⟨q2, 15, none⟩ (.slice wA' YE.length wz') (by cases c104 <;> rfl) (fun h => by cases c104 <;> first | rfl | cases h) (ld54 (show _ = some (.slice wA' YE.length wz' : Value) from hq2 15)) ?_
  go_frame
  refine Xe ((!c104)) _ 54 _ rfl Try.underlying54 _ (YE.length) _ (by cases c104 <;> rfl) (fun h => by cases c104 <;> first | rfl | cases h) ?_
  go_frame
  refine Y3 ((!c104)) .neq 3 _ _ _ rfl (.int .i64 (ZB.length : Int)) (.int .i64 (YE.length : Int)) (.bool ((ZB.length : Int) != (YE.length : Int))) (by cases c104 <;> rfl) (fun h => by cases c104 <;> first | rfl | cases h) (fun h => by cases c104 <;> first | rfl | cases h) (Yj _ _ _ _ _ _ _ _) (bneq3 _ _ _) ?_
  go_frame
  refine Wh _ _ rfl rfl c104 ((ZB.length : Int) != (YE.length : Int)) rfl (fun h => by cases c104 <;> first | rfl | cases h) ?_
  go_frame
  obtain ⟨c105, hc105⟩ : ∃ c : Bool, c = (c104 || (ZB.length : Int) != (YE.length : Int)) := ⟨_, rfl⟩
  rw [<- hc105]
  have Hc105 := VL hc105
  clear hc105
  have HX := VL (show c105 = ((ZE.length : Int) != (Yg.length : Int) || (ZG.length : Int) != (Yc.length : Int) || (ZH.length : Int) != (Yd.length : Int) || (ZF.length : Int) != (Ye.length : Int) || (ZB.length : Int) != (YE.length : Int)) from by rw [Hc105.out, Hc104.out, Hc103.out, Hc102.out, Hc101.out])
  clear Hc101 Hc102 Hc103 Hc104 Hc105
  generalize c105 = d2 at HX ⊢
  cases d2
  case true =>
   have HE := VL (YV.out.trans (Xq (fun e => (same_len (ZE := ZE) (Yg := Yg) (ZG := ZG) (Yc := Yc) (ZH := ZH) (Yd := Yd) (ZF := ZF) (Ye := Ye) (ZB := ZB) (YE := YE) true HX.out).1 rfl (by injection e with e0 e1 e2 e3 e4 e5 e6 e7 e8 e9 e10 e11 e12 e13 e14 e15; exact ⟨e7, e9, e10, e14, e15⟩))))
   go_wp2
   go_returns
   exact YR.mk (.refl I) HS1.out.drop.drop ⟨rfl, congrArg Value.bool HE.out.symm, rfl⟩
  case false =>
   have HL := VL ((same_len (ZE := ZE) (Yg := Yg) (ZG := ZG) (Yc := Yc) (ZH := ZH) (Yd := Yd) (ZF := ZF) (Ye := Ye) (ZB := ZB) (YE := YE) false HX.out).2 rfl)
   clear HX hq1 hf1 hl1 hq2 hf2 hl2
   obtain ⟨hq1, _, _⟩ := ZO.all (HS1.out.at 1 rfl)
   obtain ⟨hq2, _, _⟩ := ZO.all (HS1.out.at 0 rfl)
   go_upto_block 0 with fail
   go_cut [] (fun wx => St I (bk q2 56 #[.int .i64 kind', .int .u32 YB, .int .u32 YW, .int .u64 XY, .int .u32 XZ, .int .u32 Yx, .int .u32 Yy, .slice rA' Yg.length rz', .string name', .slice sA' Yc.length sz', .slice qA' Yd.length qz', .int .u16 base', .int .u32 ref', .int .u8 YX, .slice aA' Ye.length az', .slice wA' YE.length wz'] :: bk q1 56 #[.int .i64 kind, .int .u32 ZA, .int .u32 ZC, .int .u64 ZN, .int .u32 ZP, .int .u32 ZI, .int .u32 ZJ, .slice rA ZE.length rz, .string name, .slice sA ZG.length sz, .slice qA ZH.length qz, .int .u16 base, .int .u32 ref, .int .u8 count, .slice aA ZF.length az, .slice wA ZB.length wz] :: M) wx /\ ZE = Yg)
   case first =>
    clear hq1 hq2
    go_wp2_with fail
    go_loopw [131] (fun iv wr => ∃ k : Nat, k <= ZE.length /\ iv = .int .i64 k /\ Hid ((∀ j (h1 : j < ZE.length) (h2 : j < Yg.length), j < k -> ZE[j] = Yg[j]) /\ St I (bk q2 56 #[.int .i64 kind', .int .u32 YB, .int .u32 YW, .int .u64 XY, .int .u32 XZ, .int .u32 Yx, .int .u32 Yy, .slice rA' Yg.length rz', .string name', .slice sA' Yc.length sz', .slice qA' Yd.length qz', .int .u16 base', .int .u32 ref', .int .u8 YX, .slice aA' Ye.length az', .slice wA' YE.length wz'] :: bk q1 56 #[.int .i64 kind, .int .u32 ZA, .int .u32 ZC, .int .u64 ZN, .int .u32 ZP, .int .u32 ZI, .int .u32 ZJ, .slice rA ZE.length rz, .string name, .slice sA ZG.length sz, .slice qA ZH.length qz, .int .u16 base, .int .u32 ref, .int .u8 count, .slice aA ZF.length az, .slice wA ZB.length wz] :: M) wr)) (fun iv _ => ZE.length - (intOf iv).toNat)
    case atStart => exact ⟨0, Nat.zero_le _, rfl, fun j _ _ h => by omega, HS1.out⟩
    case round =>
     obtain ⟨k, hk, rfl, hh⟩ := hrel
     obtain ⟨hno, hs⟩ := hh.out
     have HNO := VL hno
     clear hh HS1 hno
     have hln := HL.out.1
     by_cases Z0 : k < ZE.length
     ·have hlt2 : k < Yg.length := by omega
      obtain ⟨g1, o1, e1, Zc⟩ := flat_get (s := 7) (fun _ => rfl) HR.out.1 (by omega) (by decide)
      replace Zc : ∀ j, j < 7 -> ∀ wx N, St I N wx -> wx.cell? ⟨g1, o1 + k * 7 + j, none⟩ = (Yt ZE[k])[j]? := fun j hj wx N hS => Zc N wx hS k (by omega) j hj
      obtain ⟨x1, hx1⟩ : ∃ x, x = ZE[k] := ⟨_, rfl⟩
      rw [<- hx1] at Zc
      have HX1 := VL hx1
      clear hx1
      obtain ⟨g2, o2, e2, hc2⟩ := flat_get (s := 7) (fun _ => rfl) HR.out.2 (by omega) (by decide)
      replace hc2 : ∀ j, j < 7 -> ∀ wx N, St I N wx -> wx.cell? ⟨g2, o2 + k * 7 + j, none⟩ = (Yt Yg[k])[j]? := fun j hj wx N hS => hc2 N wx hS k (by omega) j hj
      obtain ⟨x2, hx2⟩ : ∃ x, x = Yg[k] := ⟨_, rfl⟩
      rw [<- hx2] at hc2
      have HX2 := VL hx2
      clear hx2
      subst e1 e2
      have hs' := hs
      obtain ⟨hq1, _, _⟩ := ZO.all (hs.at 1 rfl)
      obtain ⟨hq2, _, _⟩ := ZO.all (hs.at 0 rfl)
      have z10 : wr.cell? ⟨g1, o1 + k * 7, none⟩ = some (.int .u32 x1.src)   := Zc 0 (by decide) _ _ hs
      have z11 : wr.cell? ⟨g1, o1 + k * 7 + 1, none⟩ = some (.int .u8 x1.lost)   := Zc 1 (by decide) _ _ hs
      have z12 : wr.cell? ⟨g1, o1 + k * 7 + 2, none⟩ = some (.int .u32 x1.total)   := Zc 2 (by decide) _ _ hs
      have z13 : wr.cell? ⟨g1, o1 + k * 7 + 3, none⟩ = some (.int .u32 x1.high)   := Zc 3 (by decide) _ _ hs
      have z14 : wr.cell? ⟨g1, o1 + k * 7 + 4, none⟩ = some (.int .u32 x1.Xw)   := Zc 4 (by decide) _ _ hs
      have z15 : wr.cell? ⟨g1, o1 + k * 7 + 5, none⟩ = some (.int .u32 x1.last)   := Zc 5 (by decide) _ _ hs
      have z16 : wr.cell? ⟨g1, o1 + k * 7 + 6, none⟩ = some (.int .u32 x1.delay)   := Zc 6 (by decide) _ _ hs
      have z20 : wr.cell? ⟨g2, o2 + k * 7, none⟩ = some (.int .u32 x2.src)   := hc2 0 (by decide) _ _ hs
      have z21 : wr.cell? ⟨g2, o2 + k * 7 + 1, none⟩ = some (.int .u8 x2.lost)   := hc2 1 (by decide) _ _ hs
      have z22 : wr.cell? ⟨g2, o2 + k * 7 + 2, none⟩ = some (.int .u32 x2.total)   := hc2 2 (by decide) _ _ hs
      have z23 : wr.cell? ⟨g2, o2 + k * 7 + 3, none⟩ = some (.int .u32 x2.high)   := hc2 3 (by decide) _ _ hs
      have z24 : wr.cell? ⟨g2, o2 + k * 7 + 4, none⟩ = some (.int .u32 x2.Xw)   := hc2 4 (by decide) _ _ hs
      have z25 : wr.cell? ⟨g2, o2 + k * 7 + 5, none⟩ = some (.int .u32 x2.last)   := hc2 5 (by decide) _ _ hs
      have z26 : wr.cell? ⟨g2, o2 + k * 7 + 6, none⟩ = some (.int .u32 x2.delay)   := hc2 6 (by decide) _ _ hs
      have HS := VL hs
      clear Zc hc2 hs hs'
      cases hb : eqRp x1 x2
      ·have hne := fun wx => (neq64 x1 x2 wx).trans (by rw [hb])
       have HB := VL (show x1 ≠ x2 from fun e => by rw [(eqRp_iff x1 x2).2 e] at hb; cases hb)
       clear hb
       have HE := VL (YV.out.trans (Xq (fun e => by injection e with e0 e1 e2 e3 e4 e5 e6 e7 e8 e9 e10 e11 e12 e13 e14 e15; refine HB.out (HX1.out.trans (Eq.trans ?_ HX2.out.symm)); exact List.getElem_of_eq e7 _)))
       clear HB HX1 HX2
       go_wp2
       go_quiet (fail)
       have HS2 := VL (HS.out.drewN nq)
       clear z10 z11 z12 z13 z14 z15 z16 z20 z21 z22 z23 z24 z25 z26 HS
       go_wp2
       go_returns
       exact YR.mk (.refl I) HS2.out.drop.drop ⟨rfl, congrArg Value.bool HE.out.symm, rfl⟩
      have hne := fun wx => (neq64 x1 x2 wx).trans (by rw [hb])
      have HB := VL ((eqRp_iff x1 x2).1 hb)
      clear hb
      have HNO2 := VL (show ∀ j (h1 : j < ZE.length) (h2 : j < Yg.length), j < k + 1 -> ZE[j] = Yg[j] from fun j h1 h2 h => by
       by_cases e : j = k
       ·subst e; exact HX1.out.symm.trans (HB.out.trans HX2.out)
       exact HNO.out j h1 h2 (by omega))
      clear HB HX1 HX2
      go_wp2
      go_quiet (fail)
      have HS2 := VL (HS.out.drewN nq)
      clear z10 z11 z12 z13 z14 z15 z16 z20 z21 z22 z23 z24 z25 z26 HS
      go_wp2
      go_roundw
      case rel => exact ⟨k + 1, by omega, by go_num, HNO2.out, HS2.out⟩
      case measure => simp [intOf]; omega
     have HE := VL (show ZE = Yg from Wy hln (fun j h1 h2 => HNO.out j h1 h2 (by omega)))
     have HS := VL hs
     clear hs
     go_wp2
     go_meet
     exact ⟨HS.out, HE.out⟩
   case rest =>
    obtain ⟨hs, he⟩ := hcut
    have HE0 := VL he
    clear HS1 hq1 hq2 he
    have HS1 := VL hs
    clear hs
    obtain ⟨hq1, _, _⟩ := ZO.all (HS1.out.at 1 rfl)
    obtain ⟨hq2, _, _⟩ := ZO.all (HS1.out.at 0 rfl)
    go_upto_block 2 with fail
    go_cut [] (fun wx => St I (bk q2 56 #[.int .i64 kind', .int .u32 YB, .int .u32 YW, .int .u64 XY, .int .u32 XZ, .int .u32 Yx, .int .u32 Yy, .slice rA' Yg.length rz', .string name', .slice sA' Yc.length sz', .slice qA' Yd.length qz', .int .u16 base', .int .u32 ref', .int .u8 YX, .slice aA' Ye.length az', .slice wA' YE.length wz'] :: bk q1 56 #[.int .i64 kind, .int .u32 ZA, .int .u32 ZC, .int .u64 ZN, .int .u32 ZP, .int .u32 ZI, .int .u32 ZJ, .slice rA ZE.length rz, .string name, .slice sA ZG.length sz, .slice qA ZH.length qz, .int .u16 base, .int .u32 ref, .int .u8 count, .slice aA ZF.length az, .slice wA ZB.length wz] :: M) wx /\ ZG = Yc)
    case first =>
     clear hq1 hq2
     go_wp2_with fail
     go_loopw [149] (fun iv wr => ∃ k : Nat, k <= ZG.length /\ iv = .int .i64 k /\ Hid ((∀ j (h1 : j < ZG.length) (h2 : j < Yc.length), j < k -> ZG[j] = Yc[j]) /\ St I (bk q2 56 #[.int .i64 kind', .int .u32 YB, .int .u32 YW, .int .u64 XY, .int .u32 XZ, .int .u32 Yx, .int .u32 Yy, .slice rA' Yg.length rz', .string name', .slice sA' Yc.length sz', .slice qA' Yd.length qz', .int .u16 base', .int .u32 ref', .int .u8 YX, .slice aA' Ye.length az', .slice wA' YE.length wz'] :: bk q1 56 #[.int .i64 kind, .int .u32 ZA, .int .u32 ZC, .int .u64 ZN, .int .u32 ZP, .int .u32 ZI, .int .u32 ZJ, .slice rA ZE.length rz, .string name, .slice sA ZG.length sz, .slice qA ZH.length qz, .int .u16 base, .int .u32 ref, .int .u8 count, .slice aA ZF.length az, .slice wA ZB.length wz] :: M) wr)) (fun iv _ => ZG.length - (intOf iv).toNat)
     case atStart => exact ⟨0, Nat.zero_le _, rfl, fun j _ _ h => by omega, HS1.out⟩
     case round =>
      obtain ⟨k, hk, rfl, hh⟩ := hrel
      obtain ⟨hno, hs⟩ := hh.out
      have HNO := VL hno
      clear hh HS1 hno
      have hln := HL.out.2.1
      by_cases Z0 : k < ZG.length
      ·have hlt2 : k < Yc.length := by omega
       obtain ⟨g1, o1, e1, Zc⟩ := flat_get (s := 1) (fun _ => rfl) HS.out.1 (by omega) (by decide)
       replace Zc : ∀ j, j < 1 -> ∀ wx N, St I N wx -> wx.cell? ⟨g1, o1 + k * 1 + j, none⟩ = (Xd ZG[k])[j]? := fun j hj wx N hS => Zc N wx hS k (by omega) j hj
       obtain ⟨x1, hx1⟩ : ∃ x, x = ZG[k] := ⟨_, rfl⟩
       rw [<- hx1] at Zc
       have HX1 := VL hx1
       clear hx1
       obtain ⟨g2, o2, e2, hc2⟩ := flat_get (s := 1) (fun _ => rfl) HS.out.2 (by omega) (by decide)
       replace hc2 : ∀ j, j < 1 -> ∀ wx N, St I N wx -> wx.cell? ⟨g2, o2 + k * 1 + j, none⟩ = (Xd Yc[k])[j]? := fun j hj wx N hS => hc2 N wx hS k (by omega) j hj
       obtain ⟨x2, hx2⟩ : ∃ x, x = Yc[k] := ⟨_, rfl⟩
       rw [<- hx2] at hc2
       have HX2 := VL hx2
       clear hx2
       subst e1 e2
       have hs' := hs
       obtain ⟨hq1, _, _⟩ := ZO.all (hs.at 1 rfl)
       obtain ⟨hq2, _, _⟩ := ZO.all (hs.at 0 rfl)
       simp only [Nat.mul_one] at Zc hc2
       have z10 : wr.cell? ⟨g1, o1 + k, none⟩ = some (.int .u32 x1)   := Zc 0 (by decide) _ _ hs
       have z20 : wr.cell? ⟨g2, o2 + k, none⟩ = some (.int .u32 x2)   := hc2 0 (by decide) _ _ hs
       have HS := VL hs
       clear Zc hc2 hs hs'
       by_cases hb : x1 = x2
       ·have hxx : (x1 != x2) = false := by rw [hb]; simp
        have HB := VL hb
        clear hb
        have HNO2 := VL (show ∀ j (h1 : j < ZG.length) (h2 : j < Yc.length), j < k + 1 -> ZG[j] = Yc[j] from fun j h1 h2 h => by
         by_cases e : j = k
         ·subst e; exact HX1.out.symm.trans (HB.out.trans HX2.out)
         exact HNO.out j h1 h2 (by omega))
        clear HB HX1 HX2
        go_wp2
        go_quiet (fail)
        have HS2 := VL (HS.out.drewN nq)
        clear z10 z20 HS
        go_wp2
        go_roundw
        case rel => exact ⟨k + 1, by omega, by go_num, HNO2.out, HS2.out⟩
        case measure => simp [intOf]; omega
       have hxx : (x1 != x2) = true := by simp [hb]
       have HB := VL hb
       clear hb
       have HE := VL (YV.out.trans (Xq (fun e => by injection e with e0 e1 e2 e3 e4 e5 e6 e7 e8 e9 e10 e11 e12 e13 e14 e15; refine HB.out (HX1.out.trans (Eq.trans ?_ HX2.out.symm)); exact List.getElem_of_eq e9 _)))
       clear HB HX1 HX2
       go_wp2
       go_quiet (fail)
       have HS2 := VL (HS.out.drewN nq)
       clear z10 z20 HS
       go_wp2
       go_returns
       exact YR.mk (.refl I) HS2.out.drop.drop ⟨rfl, congrArg Value.bool HE.out.symm, rfl⟩
      have HE := VL (show ZG = Yc from Wy hln (fun j h1 h2 => HNO.out j h1 h2 (by omega)))
      have HS := VL hs
      clear hs
      go_wp2
      go_meet
      exact ⟨HS.out, HE.out⟩
    case rest =>
     obtain ⟨hs, he⟩ := hcut
     have HE1 := VL he
     clear HS1 hq1 hq2 he
     have HS1 := VL hs
     clear hs
     obtain ⟨hq1, _, _⟩ := ZO.all (HS1.out.at 1 rfl)
     obtain ⟨hq2, _, _⟩ := ZO.all (HS1.out.at 0 rfl)
     go_upto_block 4 with fail
     go_cut [] (fun wx => St I (bk q2 56 #[.int .i64 kind', .int .u32 YB, .int .u32 YW, .int .u64 XY, .int .u32 XZ, .int .u32 Yx, .int .u32 Yy, .slice rA' Yg.length rz', .string name', .slice sA' Yc.length sz', .slice qA' Yd.length qz', .int .u16 base', .int .u32 ref', .int .u8 YX, .slice aA' Ye.length az', .slice wA' YE.length wz'] :: bk q1 56 #[.int .i64 kind, .int .u32 ZA, .int .u32 ZC, .int .u64 ZN, .int .u32 ZP, .int .u32 ZI, .int .u32 ZJ, .slice rA ZE.length rz, .string name, .slice sA ZG.length sz, .slice qA ZH.length qz, .int .u16 base, .int .u32 ref, .int .u8 count, .slice aA ZF.length az, .slice wA ZB.length wz] :: M) wx /\ ZH = Yd)
     case first =>
      clear hq1 hq2
      go_wp2_with fail
      go_loopw [167] (fun iv wr => ∃ k : Nat, k <= ZH.length /\ iv = .int .i64 k /\ Hid ((∀ j (h1 : j < ZH.length) (h2 : j < Yd.length), j < k -> ZH[j] = Yd[j]) /\ St I (bk q2 56 #[.int .i64 kind', .int .u32 YB, .int .u32 YW, .int .u64 XY, .int .u32 XZ, .int .u32 Yx, .int .u32 Yy, .slice rA' Yg.length rz', .string name', .slice sA' Yc.length sz', .slice qA' Yd.length qz', .int .u16 base', .int .u32 ref', .int .u8 YX, .slice aA' Ye.length az', .slice wA' YE.length wz'] :: bk q1 56 #[.int .i64 kind, .int .u32 ZA, .int .u32 ZC, .int .u64 ZN, .int .u32 ZP, .int .u32 ZI, .int .u32 ZJ, .slice rA ZE.length rz, .string name, .slice sA ZG.length sz, .slice qA ZH.length qz, .int .u16 base, .int .u32 ref, .int .u8 count, .slice aA ZF.length az, .slice wA ZB.length wz] :: M) wr)) (fun iv _ => ZH.length - (intOf iv).toNat)
      case atStart => exact ⟨0, Nat.zero_le _, rfl, fun j _ _ h => by omega, HS1.out⟩
      case round =>
       obtain ⟨k, hk, rfl, hh⟩ := hrel
       obtain ⟨hno, hs⟩ := hh.out
       have HNO := VL hno
       clear hh HS1 hno
       have hln := HL.out.2.2.1
       by_cases Z0 : k < ZH.length
       ·have hlt2 : k < Yd.length := by omega
        obtain ⟨g1, o1, e1, Zc⟩ := flat_get (s := 1) (fun _ => rfl) HQ.out.1 (by omega) (by decide)
        replace Zc : ∀ j, j < 1 -> ∀ wx N, St I N wx -> wx.cell? ⟨g1, o1 + k * 1 + j, none⟩ = (Yp ZH[k])[j]? := fun j hj wx N hS => Zc N wx hS k (by omega) j hj
        obtain ⟨x1, hx1⟩ : ∃ x, x = ZH[k] := ⟨_, rfl⟩
        rw [<- hx1] at Zc
        have HX1 := VL hx1
        clear hx1
        obtain ⟨g2, o2, e2, hc2⟩ := flat_get (s := 1) (fun _ => rfl) HQ.out.2 (by omega) (by decide)
        replace hc2 : ∀ j, j < 1 -> ∀ wx N, St I N wx -> wx.cell? ⟨g2, o2 + k * 1 + j, none⟩ = (Yp Yd[k])[j]? := fun j hj wx N hS => hc2 N wx hS k (by omega) j hj
        obtain ⟨x2, hx2⟩ : ∃ x, x = Yd[k] := ⟨_, rfl⟩
        rw [<- hx2] at hc2
        have HX2 := VL hx2
        clear hx2
        subst e1 e2
        have hs' := hs
        obtain ⟨hq1, _, _⟩ := ZO.all (hs.at 1 rfl)
        obtain ⟨hq2, _, _⟩ := ZO.all (hs.at 0 rfl)
        simp only [Nat.mul_one] at Zc hc2
        have z10 : wr.cell? ⟨g1, o1 + k, none⟩ = some (.int .u16 x1)   := Zc 0 (by decide) _ _ hs
        have z20 : wr.cell? ⟨g2, o2 + k, none⟩ = some (.int .u16 x2)   := hc2 0 (by decide) _ _ hs
        have HS := VL hs
        clear Zc hc2 hs hs'
        by_cases hb : x1 = x2
        ·have hxx : (x1 != x2) = false := by rw [hb]; simp
         have HB := VL hb
         clear hb
         have HNO2 := VL (show ∀ j (h1 : j < ZH.length) (h2 : j < Yd.length), j < k + 1 -> ZH[j] = Yd[j] from fun j h1 h2 h => by
          by_cases e : j = k
          ·subst e; exact HX1.out.symm.trans (HB.out.trans HX2.out)
          exact HNO.out j h1 h2 (by omega))
         clear HB HX1 HX2
         go_wp2
         go_quiet (fail)
         have HS2 := VL (HS.out.drewN nq)
         clear z10 z20 HS
         go_wp2
         go_roundw
         case rel => exact ⟨k + 1, by omega, by go_num, HNO2.out, HS2.out⟩
         case measure => simp [intOf]; omega
        have hxx : (x1 != x2) = true := by simp [hb]
        have HB := VL hb
        clear hb
        have HE := VL (YV.out.trans (Xq (fun e => by injection e with e0 e1 e2 e3 e4 e5 e6 e7 e8 e9 e10 e11 e12 e13 e14 e15; refine HB.out (HX1.out.trans (Eq.trans ?_ HX2.out.symm)); exact List.getElem_of_eq e10 _)))
        clear HB HX1 HX2
        go_wp2
        go_quiet (fail)
        have HS2 := VL (HS.out.drewN nq)
        clear z10 z20 HS
        go_wp2
        go_returns
        exact YR.mk (.refl I) HS2.out.drop.drop ⟨rfl, congrArg Value.bool HE.out.symm, rfl⟩
       have HE := VL (show ZH = Yd from Wy hln (fun j h1 h2 => HNO.out j h1 h2 (by omega)))
       have HS := VL hs
       clear hs
       go_wp2
       go_meet
       exact ⟨HS.out, HE.out⟩
     case rest =>
      obtain ⟨hs, he⟩ := hcut
      have HE2 := VL he
      clear HS1 hq1 hq2 he
      have HS1 := VL hs
      clear hs
      obtain ⟨hq1, _, _⟩ := ZO.all (HS1.out.at 1 rfl)
      obtain ⟨hq2, _, _⟩ := ZO.all (HS1.out.at 0 rfl)
      go_upto_block 6 with fail
      go_cut [] (fun wx => St I (bk q2 56 #[.int .i64 kind', .int .u32 YB, .int .u32 YW, .int .u64 XY, .int .u32 XZ, .int .u32 Yx, .int .u32 Yy, .slice rA' Yg.length rz', .string name', .slice sA' Yc.length sz', .slice qA' Yd.length qz', .int .u16 base', .int .u32 ref', .int .u8 YX, .slice aA' Ye.length az', .slice wA' YE.length wz'] :: bk q1 56 #[.int .i64 kind, .int .u32 ZA, .int .u32 ZC, .int .u64 ZN, .int .u32 ZP, .int .u32 ZI, .int .u32 ZJ, .slice rA ZE.length rz, .string name, .slice sA ZG.length sz, .slice qA ZH.length qz, .int .u16 base, .int .u32 ref, .int .u8 count, .slice aA ZF.length az, .slice wA ZB.length wz] :: M) wx /\ ZF = Ye)
      case first =>
       clear hq1 hq2
       go_wp2_with fail
       go_loopw [185] (fun iv wr => ∃ k : Nat, k <= ZF.length /\ iv = .int .i64 k /\ Hid ((∀ j (h1 : j < ZF.length) (h2 : j < Ye.length), j < k -> ZF[j] = Ye[j]) /\ St I (bk q2 56 #[.int .i64 kind', .int .u32 YB, .int .u32 YW, .int .u64 XY, .int .u32 XZ, .int .u32 Yx, .int .u32 Yy, .slice rA' Yg.length rz', .string name', .slice sA' Yc.length sz', .slice qA' Yd.length qz', .int .u16 base', .int .u32 ref', .int .u8 YX, .slice aA' Ye.length az', .slice wA' YE.length wz'] :: bk q1 56 #[.int .i64 kind, .int .u32 ZA, .int .u32 ZC, .int .u64 ZN, .int .u32 ZP, .int .u32 ZI, .int .u32 ZJ, .slice rA ZE.length rz, .string name, .slice sA ZG.length sz, .slice qA ZH.length qz, .int .u16 base, .int .u32 ref, .int .u8 count, .slice aA ZF.length az, .slice wA ZB.length wz] :: M) wr)) (fun iv _ => ZF.length - (intOf iv).toNat)
       case atStart => exact ⟨0, Nat.zero_le _, rfl, fun j _ _ h => by omega, HS1.out⟩
       case round =>
        obtain ⟨k, hk, rfl, hh⟩ := hrel
        obtain ⟨hno, hs⟩ := hh.out
        have HNO := VL hno
        clear hh HS1 hno
        have hln := HL.out.2.2.2.1
        by_cases Z0 : k < ZF.length
        ·have hlt2 : k < Ye.length := by omega
         obtain ⟨g1, o1, e1, Zc⟩ := flat_get (s := 1) (fun _ => rfl) HA.out.1 (by omega) (by decide)
         replace Zc : ∀ j, j < 1 -> ∀ wx N, St I N wx -> wx.cell? ⟨g1, o1 + k * 1 + j, none⟩ = (XC ZF[k])[j]? := fun j hj wx N hS => Zc N wx hS k (by omega) j hj
         obtain ⟨x1, hx1⟩ : ∃ x, x = ZF[k] := ⟨_, rfl⟩
         rw [<- hx1] at Zc
         have HX1 := VL hx1
         clear hx1
         obtain ⟨g2, o2, e2, hc2⟩ := flat_get (s := 1) (fun _ => rfl) HA.out.2 (by omega) (by decide)
         replace hc2 : ∀ j, j < 1 -> ∀ wx N, St I N wx -> wx.cell? ⟨g2, o2 + k * 1 + j, none⟩ = (XC Ye[k])[j]? := fun j hj wx N hS => hc2 N wx hS k (by omega) j hj
         obtain ⟨x2, hx2⟩ : ∃ x, x = Ye[k] := ⟨_, rfl⟩
         rw [<- hx2] at hc2
         have HX2 := VL hx2
         clear hx2
         subst e1 e2
         have hs' := hs
         obtain ⟨hq1, _, _⟩ := ZO.all (hs.at 1 rfl)
         obtain ⟨hq2, _, _⟩ := ZO.all (hs.at 0 rfl)
         simp only [Nat.mul_one] at Zc hc2
         have z10 : wr.cell? ⟨g1, o1 + k, none⟩ = some (.int .i64 x1)   := Zc 0 (by decide) _ _ hs
         have z20 : wr.cell? ⟨g2, o2 + k, none⟩ = some (.int .i64 x2)   := hc2 0 (by decide) _ _ hs
         have HS := VL hs
         clear Zc hc2 hs hs'
         by_cases hb : x1 = x2
         ·have hxx : (x1 != x2) = false := by rw [hb]; simp
          have HB := VL hb
          clear hb
          have HNO2 := VL (show ∀ j (h1 : j < ZF.length) (h2 : j < Ye.length), j < k + 1 -> ZF[j] = Ye[j] from fun j h1 h2 h => by
           by_cases e : j = k
           ·subst e; exact HX1.out.symm.trans (HB.out.trans HX2.out)
           exact HNO.out j h1 h2 (by omega))
          clear HB HX1 HX2
          go_wp2
          go_quiet (fail)
          have HS2 := VL (HS.out.drewN nq)
          clear z10 z20 HS
          go_wp2
          go_roundw
          case rel => exact ⟨k + 1, by omega, by go_num, HNO2.out, HS2.out⟩
          case measure => simp [intOf]; omega
         have hxx : (x1 != x2) = true := by simp [hb]
         have HB := VL hb
         clear hb
         have HE := VL (YV.out.trans (Xq (fun e => by injection e with e0 e1 e2 e3 e4 e5 e6 e7 e8 e9 e10 e11 e12 e13 e14 e15; refine HB.out (HX1.out.trans (Eq.trans ?_ HX2.out.symm)); exact List.getElem_of_eq e14 _)))
         clear HB HX1 HX2
         go_wp2
         go_quiet (fail)
         have HS2 := VL (HS.out.drewN nq)
         clear z10 z20 HS
         go_wp2
         go_returns
         exact YR.mk (.refl I) HS2.out.drop.drop ⟨rfl, congrArg Value.bool HE.out.symm, rfl⟩
        have HE := VL (show ZF = Ye from Wy hln (fun j h1 h2 => HNO.out j h1 h2 (by omega)))
        have HS := VL hs
        clear hs
        go_wp2
        go_meet
        exact ⟨HS.out, HE.out⟩
      case rest =>
       obtain ⟨hs, he⟩ := hcut
       have HE3 := VL he
       clear HS1 hq1 hq2 he
       have HS1 := VL hs
       clear hs
       obtain ⟨hq1, _, _⟩ := ZO.all (HS1.out.at 1 rfl)
       obtain ⟨hq2, _, _⟩ := ZO.all (HS1.out.at 0 rfl)
       go_upto_block 8 with fail
       go_cut [] (fun wx => St I (bk q2 56 #[.int .i64 kind', .int .u32 YB, .int .u32 YW, .int .u64 XY, .int .u32 XZ, .int .u32 Yx, .int .u32 Yy, .slice rA' Yg.length rz', .string name', .slice sA' Yc.length sz', .slice qA' Yd.length qz', .int .u16 base', .int .u32 ref', .int .u8 YX, .slice aA' Ye.length az', .slice wA' YE.length wz'] :: bk q1 56 #[.int .i64 kind, .int .u32 ZA, .int .u32 ZC, .int .u64 ZN, .int .u32 ZP, .int .u32 ZI, .int .u32 ZJ, .slice rA ZE.length rz, .string name, .slice sA ZG.length sz, .slice qA ZH.length qz, .int .u16 base, .int .u32 ref, .int .u8 count, .slice aA ZF.length az, .slice wA ZB.length wz] :: M) wx /\ ZB = YE)
       case first =>
        clear hq1 hq2
        go_wp2_with fail
        go_loopw [203] (fun iv wr => ∃ k : Nat, k <= ZB.length /\ iv = .int .i64 k /\ Hid ((∀ j (h1 : j < ZB.length) (h2 : j < YE.length), j < k -> ZB[j] = YE[j]) /\ St I (bk q2 56 #[.int .i64 kind', .int .u32 YB, .int .u32 YW, .int .u64 XY, .int .u32 XZ, .int .u32 Yx, .int .u32 Yy, .slice rA' Yg.length rz', .string name', .slice sA' Yc.length sz', .slice qA' Yd.length qz', .int .u16 base', .int .u32 ref', .int .u8 YX, .slice aA' Ye.length az', .slice wA' YE.length wz'] :: bk q1 56 #[.int .i64 kind, .int .u32 ZA, .int .u32 ZC, .int .u64 ZN, .int .u32 ZP, .int .u32 ZI, .int .u32 ZJ, .slice rA ZE.length rz, .string name, .slice sA ZG.length sz, .slice qA ZH.length qz, .int .u16 base, .int .u32 ref, .int .u8 count, .slice aA ZF.length az, .slice wA ZB.length wz] :: M) wr)) (fun iv _ => ZB.length - (intOf iv).toNat)
        case atStart => exact ⟨0, Nat.zero_le _, rfl, fun j _ _ h => by omega, HS1.out⟩
        case round =>
         obtain ⟨k, hk, rfl, hh⟩ := hrel
         obtain ⟨hno, hs⟩ := hh.out
         have HNO := VL hno
         clear hh HS1 hno
         have hln := HL.out.2.2.2.2
         by_cases Z0 : k < ZB.length
         ·have hlt2 : k < YE.length := by omega
          obtain ⟨g1, o1, e1, Zc⟩ := flat_get (s := 2) (fun _ => rfl) HW.out.1 (by omega) (by decide)
          replace Zc : ∀ j, j < 2 -> ∀ wx N, St I N wx -> wx.cell? ⟨g1, o1 + k * 2 + j, none⟩ = (WO ZB[k])[j]? := fun j hj wx N hS => Zc N wx hS k (by omega) j hj
          obtain ⟨x1, hx1⟩ : ∃ x, x = ZB[k] := ⟨_, rfl⟩
          rw [<- hx1] at Zc
          have HX1 := VL hx1
          clear hx1
          obtain ⟨g2, o2, e2, hc2⟩ := flat_get (s := 2) (fun _ => rfl) HW.out.2 (by omega) (by decide)
          replace hc2 : ∀ j, j < 2 -> ∀ wx N, St I N wx -> wx.cell? ⟨g2, o2 + k * 2 + j, none⟩ = (WO YE[k])[j]? := fun j hj wx N hS => hc2 N wx hS k (by omega) j hj
          obtain ⟨x2, hx2⟩ : ∃ x, x = YE[k] := ⟨_, rfl⟩
          rw [<- hx2] at hc2
          have HX2 := VL hx2
          clear hx2
          subst e1 e2
          have hs' := hs
          obtain ⟨hq1, _, _⟩ := ZO.all (hs.at 1 rfl)
          obtain ⟨hq2, _, _⟩ := ZO.all (hs.at 0 rfl)
          have z10 : wr.cell? ⟨g1, o1 + k * 2, none⟩ = some (.int .u32 x1.src)   := Zc 0 (by decide) _ _ hs
          have z11 : wr.cell? ⟨g1, o1 + k * 2 + 1, none⟩ = some (.int .u8 x1.seq)   := Zc 1 (by decide) _ _ hs
          have z20 : wr.cell? ⟨g2, o2 + k * 2, none⟩ = some (.int .u32 x2.src)   := hc2 0 (by decide) _ _ hs
          have z21 : wr.cell? ⟨g2, o2 + k * 2 + 1, none⟩ = some (.int .u8 x2.seq)   := hc2 1 (by decide) _ _ hs
          have HS := VL hs
          clear Zc hc2 hs hs'
          cases hb : eqWn x1 x2
          ·have hne := fun wx => (neq67 x1 x2 wx).trans (by rw [hb])
           have HB := VL (show x1 ≠ x2 from fun e => by rw [(eqWn_iff x1 x2).2 e] at hb; cases hb)
           clear hb
           have HE := VL (YV.out.trans (Xq (fun e => by injection e with e0 e1 e2 e3 e4 e5 e6 e7 e8 e9 e10 e11 e12 e13 e14 e15; refine HB.out (HX1.out.trans (Eq.trans ?_ HX2.out.symm)); exact List.getElem_of_eq e15 _)))
           clear HB HX1 HX2
           go_wp2
           go_quiet (fail)
           have HS2 := VL (HS.out.drewN nq)
           clear z10 z11 z20 z21 HS
           go_wp2
           go_returns
           exact YR.mk (.refl I) HS2.out.drop.drop ⟨rfl, congrArg Value.bool HE.out.symm, rfl⟩
          have hne := fun wx => (neq67 x1 x2 wx).trans (by rw [hb])
          have HB := VL ((eqWn_iff x1 x2).1 hb)
          clear hb
          have HNO2 := VL (show ∀ j (h1 : j < ZB.length) (h2 : j < YE.length), j < k + 1 -> ZB[j] = YE[j] from fun j h1 h2 h => by
           by_cases e : j = k
           ·subst e; exact HX1.out.symm.trans (HB.out.trans HX2.out)
           exact HNO.out j h1 h2 (by omega))
          clear HB HX1 HX2
          go_wp2
          go_quiet (fail)
          have HS2 := VL (HS.out.drewN nq)
          clear z10 z11 z20 z21 HS
          go_wp2
          go_roundw
          case rel => exact ⟨k + 1, by omega, by go_num, HNO2.out, HS2.out⟩
          case measure => simp [intOf]; omega
         have HE := VL (show ZB = YE from Wy hln (fun j h1 h2 => HNO.out j h1 h2 (by omega)))
         have HS := VL hs
         clear hs
         go_wp2
         go_meet
         exact ⟨HS.out, HE.out⟩
       case rest =>
        obtain ⟨hs, he⟩ := hcut
        have HE4 := VL he
        clear HS1 hq1 hq2 he
        have HS1 := VL hs
        clear hs
        obtain ⟨a1, a2, a3, a4, a5, a6, a7, a8, a9, a10, a11⟩ := HSC.out
        have HE := VL (YV.out.trans (Wx (by rw [a1, a2, a3, a4, a5, a6, a7, a8, a9, a10, a11, HE0.out, HE1.out, HE2.out, HE3.out, HE4.out])))
        clear a1 a2 a3 a4 a5 a6 a7 a8 a9 a10 a11
        go_wp2
        go_returns
        exact YR.mk (.refl I) HS1.out.drop.drop ⟨rfl, congrArg Value.bool HE.out.symm, rfl⟩
end Go.Proofs.Ytddopbbmgpnjjaa
