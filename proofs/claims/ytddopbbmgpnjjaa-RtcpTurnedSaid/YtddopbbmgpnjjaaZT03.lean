/- part. -/
import Derived.Test.YtddopbbmgpnjjaaZT02
import Derived.Maps.RangeWalk
namespace Go.Proofs.Ytddopbbmgpnjjaa
set_option linter.unusedSimpArgs false
open Go.RowKit
theorem fld51_1 (g : Nat) (w : World) : (Instr.fieldAt 51 (.pointer (some ⟨g, 0, none⟩)) 1).run Try.prog w = .ok (.pointer (some ⟨g, 1, none⟩)) w := by go_simp
theorem fld51_2 (g : Nat) (w : World) : (Instr.fieldAt 51 (.pointer (some ⟨g, 0, none⟩)) 2).run Try.prog w = .ok (.pointer (some ⟨g, 2, none⟩)) w := by go_simp
theorem fld51_3 (g : Nat) (w : World) : (Instr.fieldAt 51 (.pointer (some ⟨g, 0, none⟩)) 3).run Try.prog w = .ok (.pointer (some ⟨g, 3, none⟩)) w := by go_simp
theorem fld51_4 (g : Nat) (w : World) : (Instr.fieldAt 51 (.pointer (some ⟨g, 0, none⟩)) 4).run Try.prog w = .ok (.pointer (some ⟨g, 4, none⟩)) w := by go_simp
theorem fld51_5 (g : Nat) (w : World) : (Instr.fieldAt 51 (.pointer (some ⟨g, 0, none⟩)) 5).run Try.prog w = .ok (.pointer (some ⟨g, 5, none⟩)) w := by go_simp
theorem fld51_6 (g : Nat) (w : World) : (Instr.fieldAt 51 (.pointer (some ⟨g, 0, none⟩)) 6).run Try.prog w = .ok (.pointer (some ⟨g, 6, none⟩)) w := by go_simp
theorem fld51_7 (g : Nat) (w : World) : (Instr.fieldAt 51 (.pointer (some ⟨g, 0, none⟩)) 7).run Try.prog w = .ok (.pointer (some ⟨g, 7, none⟩)) w := by go_simp
theorem fld51_8 (g : Nat) (w : World) : (Instr.fieldAt 51 (.pointer (some ⟨g, 0, none⟩)) 8).run Try.prog w = .ok (.pointer (some ⟨g, 8, none⟩)) w := by go_simp
theorem fld51_9 (g : Nat) (w : World) : (Instr.fieldAt 51 (.pointer (some ⟨g, 0, none⟩)) 9).run Try.prog w = .ok (.pointer (some ⟨g, 9, none⟩)) w := by go_simp
theorem fld51_10 (g : Nat) (w : World) : (Instr.fieldAt 51 (.pointer (some ⟨g, 0, none⟩)) 10).run Try.prog w = .ok (.pointer (some ⟨g, 10, none⟩)) w := by go_simp
theorem fld51_11 (g : Nat) (w : World) : (Instr.fieldAt 51 (.pointer (some ⟨g, 0, none⟩)) 11).run Try.prog w = .ok (.pointer (some ⟨g, 11, none⟩)) w := by go_simp
theorem fld51_12 (g : Nat) (w : World) : (Instr.fieldAt 51 (.pointer (some ⟨g, 0, none⟩)) 12).run Try.prog w = .ok (.pointer (some ⟨g, 12, none⟩)) w := by go_simp
theorem fld51_13 (g : Nat) (w : World) : (Instr.fieldAt 51 (.pointer (some ⟨g, 0, none⟩)) 13).run Try.prog w = .ok (.pointer (some ⟨g, 13, none⟩)) w := by go_simp
theorem fld51_14 (g : Nat) (w : World) : (Instr.fieldAt 51 (.pointer (some ⟨g, 0, none⟩)) 14).run Try.prog w = .ok (.pointer (some ⟨g, 14, none⟩)) w := by go_simp
theorem fld51_15 (g : Nat) (w : World) : (Instr.fieldAt 51 (.pointer (some ⟨g, 0, none⟩)) 15).run Try.prog w = .ok (.pointer (some ⟨g, 15, none⟩)) w := by go_simp
theorem ld3 {p : Addr} {u : Value} {w : World} (h : w.cell? p = some u) : (Instr.loadAt 3 (.pointer (some p))).run Try.prog w = .ok u w := by
 go_simp
theorem WQ {p : Addr} {u : Value} {w : World} (h : w.cell? p = some u) : (Instr.loadAt 43 (.pointer (some p))).run Try.prog w = .ok u w := by
 go_simp
theorem ld45 {p : Addr} {u : Value} {w : World} (h : w.cell? p = some u) : (Instr.loadAt 45 (.pointer (some p))).run Try.prog w = .ok u w := by
 go_simp
theorem ld42 {p : Addr} {u : Value} {w : World} (h : w.cell? p = some u) : (Instr.loadAt 42 (.pointer (some p))).run Try.prog w = .ok u w := by
 go_simp
theorem ld5 {p : Addr} {u : Value} {w : World} (h : w.cell? p = some u) : (Instr.loadAt 5 (.pointer (some p))).run Try.prog w = .ok u w := by
 go_simp
theorem ld9 {p : Addr} {u : Value} {w : World} (h : w.cell? p = some u) : (Instr.loadAt 9 (.pointer (some p))).run Try.prog w = .ok u w := by
 go_simp
theorem ld46 {p : Addr} {u : Value} {w : World} (h : w.cell? p = some u) : (Instr.loadAt 46 (.pointer (some p))).run Try.prog w = .ok u w := by
 go_simp
theorem ld47 {p : Addr} {u : Value} {w : World} (h : w.cell? p = some u) : (Instr.loadAt 47 (.pointer (some p))).run Try.prog w = .ok u w := by
 go_simp
theorem ld44 {p : Addr} {u : Value} {w : World} (h : w.cell? p = some u) : (Instr.loadAt 44 (.pointer (some p))).run Try.prog w = .ok u w := by
 go_simp
theorem ld48 {p : Addr} {u : Value} {w : World} (h : w.cell? p = some u) : (Instr.loadAt 48 (.pointer (some p))).run Try.prog w = .ok u w := by
 go_simp
theorem ld49 {p : Addr} {u : Value} {w : World} (h : w.cell? p = some u) : (Instr.loadAt 49 (.pointer (some p))).run Try.prog w = .ok u w := by
 go_simp
theorem beql3 (a b : Int) (w : World) : (binOp .eql 3 (.int .i64 a) (.int .i64 b)).run Try.prog w = .ok (.bool (a == b)) w := by go_simp
theorem beql43 (a b : Int) (w : World) : (binOp .eql 43 (.int .u32 a) (.int .u32 b)).run Try.prog w = .ok (.bool (a == b)) w := by go_simp
theorem beql45 (a b : Int) (w : World) : (binOp .eql 45 (.int .u64 a) (.int .u64 b)).run Try.prog w = .ok (.bool (a == b)) w := by go_simp
theorem beql42 (a b : Int) (w : World) : (binOp .eql 42 (.int .u16 a) (.int .u16 b)).run Try.prog w = .ok (.bool (a == b)) w := by go_simp
theorem beql5 (a b : Int) (w : World) : (binOp .eql 5 (.int .u8 a) (.int .u8 b)).run Try.prog w = .ok (.bool (a == b)) w := by go_simp
theorem beql9 (s t : ByteArray) (w : World) : (binOp .eql 9 (.string s) (.string t)).run Try.prog w = .ok (.bool (s.toList == t.toList)) w := by go_simp
set_option maxRecDepth 100000 in
set_option maxHeartbeats 8000000 in
theorem clean46 (I : Zh) (M : List Zt) (w : World) (kind ZA ZC ZN ZP ZI ZJ : Int) (rA : Option Addr) (rn rc : Nat) (name : ByteArray) (sA : Option Addr) (sn sc : Nat) (qA : Option Addr) (qn qc : Nat) (base ref count : Int) (aA : Option Addr) (an ac : Nat) (wA : Option Addr) (wn wc : Nat) (kind' YB YW XY XZ Yx Yy : Int) (rA' : Option Addr) (rn' rc' : Nat) (name' : ByteArray) (sA' : Option Addr) (sn' sc' : Nat) (qA' : Option Addr) (qn' qc' : Nat) (base' ref' YX : Int) (aA' : Option Addr) (an' ac' : Nat) (wA' : Option Addr) (wn' wc' : Nat) (ZX : St I M w)
  (HB : Hid (∀ M1 w1, St I M1 w1 -> Calls Try.prog 69 #[.agg #[.int .i64 kind, .int .u32 ZA, .int .u32 ZC, .int .u64 ZN, .int .u32 ZP, .int .u32 ZI, .int .u32 ZJ, .slice rA rn rc, .string name, .slice sA sn sc, .slice qA qn qc, .int .u16 base, .int .u32 ref, .int .u8 count, .slice aA an ac, .slice wA wn wc]] w1 (YR I (fun u J M' => I = J /\ u = .agg #[.int .i64 kind', .int .u32 YB, .int .u32 YW, .int .u64 XY, .int .u32 XZ, .int .u32 Yx, .int .u32 Yy, .slice rA' rn' rc', .string name', .slice sA' sn' sc', .slice qA' qn' qc', .int .u16 base', .int .u32 ref', .int .u8 YX, .slice aA' an' ac', .slice wA' wn' wc'] /\ M' = M1)))) :
  Calls Try.prog 46 #[.agg #[.int .i64 kind, .int .u32 ZA, .int .u32 ZC, .int .u64 ZN, .int .u32 ZP, .int .u32 ZI, .int .u32 ZJ, .slice rA rn rc, .string name, .slice sA sn sc, .slice qA qn qc, .int .u16 base, .int .u32 ref, .int .u8 count, .slice aA an ac, .slice wA wn wc]] w (YR I (fun u J M' => I = J /\ u = .bool ((ZA == YB) && (ZC == YW) && (ZN == XY) && (ZP == XZ) && (ZI == Yx) && (ZJ == Yy) && (name.toList == name'.toList) && (base == base') && (ref == ref') && (count == YX) && ((rn : Int) == (rn' : Int)) && ((sn : Int) == (sn' : Int)) && ((qn : Int) == (qn' : Int)) && ((an : Int) == (an' : Int)) && ((wn : Int) == (wn' : Int))) /\ M' = M)) := by
 have ZY := ZX.alloc 51 #[.int .i64 kind, .int .u32 ZA, .int .u32 ZC, .int .u64 ZN, .int .u32 ZP, .int .u32 ZI, .int .u32 ZJ, .slice rA rn rc, .string name, .slice sA sn sc, .slice qA qn qc, .int .u16 base, .int .u32 ref, .int .u8 count, .slice aA an ac, .slice wA wn wc]
 obtain ⟨fs, hd⟩ := st51D
 clear ZX
 go_enter Try.func46, Try.ntmps46
 go_upto_region 1 with fail
 obtain ⟨q1, hq1⟩ : ∃ q, q = w.heap.size := ⟨_, rfl⟩
 rw [<- hq1] at ZY ⊢
 generalize World.alloc w _ = W at ZY ⊢
 clear hq1
 have hb1 : ZO W q1 51 #[.int .i64 kind, .int .u32 ZA, .int .u32 ZC, .int .u64 ZN, .int .u32 ZP, .int .u32 ZI, .int .u32 ZJ, .slice rA rn rc, .string name, .slice sA sn sc, .slice qA qn qc, .int .u16 base, .int .u32 ref, .int .u8 count, .slice aA an ac, .slice wA wn wc] := ZY.at 0 rfl
 have HC := VL (HB.out _ W ZY)
 have HH1 := VL ZY
 clear ZY HB
 go_wp2_with (refine wpList_load_row rfl 51 (.tmp 1) rfl q1 rfl 51 _ (0, 0) _ hb1 hd rfl Zx ?_)
 go_at_call 69
 refine HC.out.mono ?_
 rintro e W2 ⟨_, _, _, rfl, _, YN, rfl, rfl, rfl⟩
 have Zf := YN.alloc 51 #[.int .i64 kind', .int .u32 YB, .int .u32 YW, .int .u64 XY, .int .u32 XZ, .int .u32 Yx, .int .u32 Yy, .slice rA' rn' rc', .string name', .slice sA' sn' sc', .slice qA' qn' qc', .int .u16 base', .int .u32 ref', .int .u8 YX, .slice aA' an' ac', .slice wA' wn' wc']
 clear HC HH1 hb1 YN
 go_upto_region 2 with fail
 obtain ⟨q3, hq3⟩ : ∃ q, q = W2.heap.size := ⟨_, rfl⟩
 rw [<- hq3] at Zf ⊢
 generalize World.alloc W2 _ = W3 at Zf ⊢
 clear hq3
 obtain ⟨hq1, _, _⟩ := ZO.all (Zf.at 1 rfl)
 obtain ⟨hq3, _, _⟩ := ZO.all (Zf.at 0 rfl)
 have HS3 := VL Zf
 clear Zf
 refine wp_region_lit ?_
 refine ZZ (true) 51 _ 1 rfl ⟨q1, 0, none⟩ ⟨q1, 1, none⟩ rfl (fun _ => rfl) (fld51_1 _ _) ?_
 go_frame
 refine Zk (true) 43 _ rfl ⟨q1, 1, none⟩ (.int .u32 ZA) rfl (fun _ => rfl) (WQ (show _ = some (.int .u32 ZA : Value) from hq1 1)) ?_
 go_frame
 refine ZZ (true) 51 _ 1 rfl ⟨q3, 0, none⟩ ⟨q3, 1, none⟩ rfl (fun _ => rfl) (fld51_1 _ _) ?_
 go_frame
 refine Zk (true) 43 _ rfl ⟨q3, 1, none⟩ (.int .u32 YB) rfl (fun _ => rfl) (WQ (show _ = some (.int .u32 YB : Value) from hq3 1)) ?_
 go_frame
 refine Y3 (true) .eql 43 _ _ _ rfl (.int .u32 ZA) (.int .u32 YB) (.bool (ZA == YB)) rfl (fun _ => rfl) (fun _ => rfl) (Yj _ _ _ _ _ _ _ _) (beql43 _ _ _) ?_
 go_frame
 obtain ⟨c1, Zc⟩ : ∃ c : Bool, c = (ZA == YB) := ⟨_, rfl⟩
 rw [<- Zc]
 have Hc1 := VL Zc
 clear Zc
 refine Yn _ rfl rfl (.bool c1) rfl ?_
 go_frame
 refine ZZ (c1) 51 _ 2 rfl ⟨q1, 0, none⟩ ⟨q1, 2, none⟩ (by cases c1 <;> rfl) (fun h => by cases c1 <;> first | rfl | cases h) (fld51_2 _ _) ?_
 go_frame
 refine Zk (c1) 43 _ rfl ⟨q1, 2, none⟩ (.int .u32 ZC) (by cases c1 <;> rfl) (fun h => by cases c1 <;> first | rfl | cases h) (WQ (show _ = some (.int .u32 ZC : Value) from hq1 2)) ?_
 go_frame
 refine ZZ (c1) 51 _ 2 rfl ⟨q3, 0, none⟩ ⟨q3, 2, none⟩ (by cases c1 <;> rfl) (fun h => by cases c1 <;> first | rfl | cases h) (fld51_2 _ _) ?_
 go_frame
 refine Zk (c1) 43 _ rfl ⟨q3, 2, none⟩ (.int .u32 YW) (by cases c1 <;> rfl) (fun h => by cases c1 <;> first | rfl | cases h) (WQ (show _ = some (.int .u32 YW : Value) from hq3 2)) ?_
 go_frame
 refine Y3 (c1) .eql 43 _ _ _ rfl (.int .u32 ZC) (.int .u32 YW) (.bool (ZC == YW)) (by cases c1 <;> rfl) (fun h => by cases c1 <;> first | rfl | cases h) (fun h => by cases c1 <;> first | rfl | cases h) (Yj _ _ _ _ _ _ _ _) (beql43 _ _ _) ?_
 go_frame
 refine X8 _ _ rfl rfl c1 (ZC == YW) rfl (fun h => by cases c1 <;> first | rfl | cases h) ?_
 go_frame
 obtain ⟨c2, hc2⟩ : ∃ c : Bool, c = (c1 && ZC == YW) := ⟨_, rfl⟩
 rw [<- hc2]
 have Hc2 := VL hc2
 clear hc2
 refine Yn _ rfl rfl (.bool c2) rfl ?_
 go_frame
 refine ZZ (c2) 51 _ 3 rfl ⟨q1, 0, none⟩ ⟨q1, 3, none⟩ (by cases c2 <;> rfl) (fun h => by cases c2 <;> first | rfl | cases h) (fld51_3 _ _) ?_
 go_frame
 refine Zk (c2) 45 _ rfl ⟨q1, 3, none⟩ (.int .u64 ZN) (by cases c2 <;> rfl) (fun h => by cases c2 <;> first | rfl | cases h) (ld45 (show _ = some (.int .u64 ZN : Value) from hq1 3)) ?_
 go_frame
 refine ZZ (c2) 51 _ 3 rfl ⟨q3, 0, none⟩ ⟨q3, 3, none⟩ (by cases c2 <;> rfl) (fun h => by cases c2 <;> first | rfl | cases h) (fld51_3 _ _) ?_
 go_frame
 refine Zk (c2) 45 _ rfl ⟨q3, 3, none⟩ (.int .u64 XY) (by cases c2 <;> rfl) (fun h => by cases c2 <;> first | rfl | cases h) (ld45 (show _ = some (.int .u64 XY : Value) from hq3 3)) ?_
 go_frame
 refine Y3 (c2) .eql 45 _ _ _ rfl (.int .u64 ZN) (.int .u64 XY) (.bool (ZN == XY)) (by cases c2 <;> rfl) (fun h => by cases c2 <;> first | rfl | cases h) (fun h => by cases c2 <;> first | rfl | cases h) (Yj _ _ _ _ _ _ _ _) (beql45 _ _ _) ?_
 go_frame
 refine X8 _ _ rfl rfl c2 (ZN == XY) rfl (fun h => by cases c2 <;> first | rfl | cases h) ?_
 go_frame
 obtain ⟨c3, hc3⟩ : ∃ c : Bool, c = (c2 && ZN == XY) := ⟨_, rfl⟩
 rw [<- hc3]
 have Hc3 := VL hc3
 clear hc3
 refine Yn _ rfl rfl (.bool c3) rfl ?_
 go_frame
 refine ZZ (c3) 51 _ 4 rfl ⟨q1, 0, none⟩ ⟨q1, 4, none⟩ (by cases c3 <;> rfl) (fun h => by cases c3 <;> first | rfl | cases h) (fld51_4 _ _) ?_
 go_frame
 refine Zk (c3) 43 _ rfl ⟨q1, 4, none⟩ (.int .u32 ZP) (by cases c3 <;> rfl) (fun h => by cases c3 <;> first | rfl | cases h) (WQ (show _ = some (.int .u32 ZP : Value) from hq1 4)) ?_
 go_frame
 refine ZZ (c3) 51 _ 4 rfl ⟨q3, 0, none⟩ ⟨q3, 4, none⟩ (by cases c3 <;> rfl) (fun h => by cases c3 <;> first | rfl | cases h) (fld51_4 _ _) ?_
 go_frame
 refine Zk (c3) 43 _ rfl ⟨q3, 4, none⟩ (.int .u32 XZ) (by cases c3 <;> rfl) (fun h => by cases c3 <;> first | rfl | cases h) (WQ (show _ = some (.int .u32 XZ : Value) from hq3 4)) ?_
 go_frame
 refine Y3 (c3) .eql 43 _ _ _ rfl (.int .u32 ZP) (.int .u32 XZ) (.bool (ZP == XZ)) (by cases c3 <;> rfl) (fun h => by cases c3 <;> first | rfl | cases h) (fun h => by cases c3 <;> first | rfl | cases h) (Yj _ _ _ _ _ _ _ _) (beql43 _ _ _) ?_
 go_frame
 refine X8 _ _ rfl rfl c3 (ZP == XZ) rfl (fun h => by cases c3 <;> first | rfl | cases h) ?_
 go_frame
 obtain ⟨c4, hc4⟩ : ∃ c : Bool, c = (c3 && ZP == XZ) := ⟨_, rfl⟩
 rw [<- hc4]
 have Hc4 := VL hc4
 clear hc4
 refine Yn _ rfl rfl (.bool c4) rfl ?_
 go_frame
 refine ZZ (c4) 51 _ 5 rfl ⟨q1, 0, none⟩ ⟨q1, 5, none⟩ (by cases c4 <;> rfl) (fun h => by cases c4 <;> first | rfl | cases h) (fld51_5 _ _) ?_
 go_frame
 refine Zk (c4) 43 _ rfl ⟨q1, 5, none⟩ (.int .u32 ZI) (by cases c4 <;> rfl) (fun h => by cases c4 <;> first | rfl | cases h) (WQ (show _ = some (.int .u32 ZI : Value) from hq1 5)) ?_
 go_frame
 refine ZZ (c4) 51 _ 5 rfl ⟨q3, 0, none⟩ ⟨q3, 5, none⟩ (by cases c4 <;> rfl) (fun h => by cases c4 <;> first | rfl | cases h) (fld51_5 _ _) ?_
 go_frame
 refine Zk (c4) 43 _ rfl ⟨q3, 5, none⟩ (.int .u32 Yx) (by cases c4 <;> rfl) (fun h => by cases c4 <;> first | rfl | cases h) (WQ (show _ = some (.int .u32 Yx : Value) from hq3 5)) ?_
 go_frame
 refine Y3 (c4) .eql 43 _ _ _ rfl (.int .u32 ZI) (.int .u32 Yx) (.bool (ZI == Yx)) (by cases c4 <;> rfl) (fun h => by cases c4 <;> first | rfl | cases h) (fun h => by cases c4 <;> first | rfl | cases h) (Yj _ _ _ _ _ _ _ _) (beql43 _ _ _) ?_
 go_frame
 refine X8 _ _ rfl rfl c4 (ZI == Yx) rfl (fun h => by cases c4 <;> first | rfl | cases h) ?_
 go_frame
 obtain ⟨c5, hc5⟩ : ∃ c : Bool, c = (c4 && ZI == Yx) := ⟨_, rfl⟩
 rw [<- hc5]
 have Hc5 := VL hc5
 clear hc5
 refine Yn _ rfl rfl (.bool c5) rfl ?_
 go_frame
 refine ZZ (c5) 51 _ 6 rfl ⟨q1, 0, none⟩ ⟨q1, 6, none⟩ (by cases c5 <;> rfl) (fun h => by cases c5 <;> first | rfl | cases h) (fld51_6 _ _) ?_
 go_frame
 refine Zk (c5) 43 _ rfl ⟨q1, 6, none⟩ (.int .u32 ZJ) (by cases c5 <;> rfl) (fun h => by cases c5 <;> first | rfl | cases h) (WQ (show _ = some (.int .u32 ZJ : Value) from hq1 6)) ?_
 go_frame
 refine ZZ (c5) 51 _ 6 rfl ⟨q3, 0, none⟩ ⟨q3, 6, none⟩ (by cases c5 <;> rfl) (fun h => by cases c5 <;> first | rfl | cases h) (fld51_6 _ _) ?_
 go_frame
 refine Zk (c5) 43 _ rfl ⟨q3, 6, none⟩ (.int .u32 Yy) (by cases c5 <;> rfl) (fun h => by cases c5 <;> first | rfl | cases h) (WQ (show _ = some (.int .u32 Yy : Value) from hq3 6)) ?_
 go_frame
 refine Y3 (c5) .eql 43 _ _ _ rfl (.int .u32 ZJ) (.int .u32 Yy) (.bool (ZJ == Yy)) (by cases c5 <;> rfl) (fun h => by cases c5 <;> first | rfl | cases h) (fun h => by cases c5 <;> first | rfl | cases h) (Yj _ _ _ _ _ _ _ _) (beql43 _ _ _) ?_
 go_frame
 refine X8 _ _ rfl rfl c5 (ZJ == Yy) rfl (fun h => by cases c5 <;> first | rfl | cases h) ?_
 go_frame
 obtain ⟨c6, hc6⟩ : ∃ c : Bool, c = (c5 && ZJ == Yy) := ⟨_, rfl⟩
 rw [<- hc6]
 have Hc6 := VL hc6
 clear hc6
 refine Yn _ rfl rfl (.bool c6) rfl ?_
 go_frame
 refine ZZ (c6) 51 _ 8 rfl ⟨q1, 0, none⟩ ⟨q1, 8, none⟩ (by cases c6 <;> rfl) (fun h => by cases c6 <;> first | rfl | cases h) (fld51_8 _ _) ?_
 go_frame
 refine Zk (c6) 9 _ rfl ⟨q1, 8, none⟩ (.string name) (by cases c6 <;> rfl) (fun h => by cases c6 <;> first | rfl | cases h) (ld9 (show _ = some (.string name : Value) from hq1 8)) ?_
 go_frame
 refine ZZ (c6) 51 _ 8 rfl ⟨q3, 0, none⟩ ⟨q3, 8, none⟩ (by cases c6 <;> rfl) (fun h => by cases c6 <;> first | rfl | cases h) (fld51_8 _ _) ?_
 go_frame
 refine Zk (c6) 9 _ rfl ⟨q3, 8, none⟩ (.string name') (by cases c6 <;> rfl) (fun h => by cases c6 <;> first | rfl | cases h) (ld9 (show _ = some (.string name' : Value) from hq3 8)) ?_
 go_frame
 refine Y3 (c6) .eql 9 _ _ _ rfl (.string name) (.string name') (.bool (name.toList == name'.toList)) (by cases c6 <;> rfl) (fun h => by cases c6 <;> first | rfl | cases h) (fun h => by cases c6 <;> first | rfl | cases h) (eqg_str _ _ _ _ _ _) (beql9 _ _ _) ?_
 go_frame
 refine X8 _ _ rfl rfl c6 (name.toList == name'.toList) rfl (fun h => by cases c6 <;> first | rfl | cases h) ?_
 go_frame
 obtain ⟨c7, hc7⟩ : ∃ c : Bool, c = (c6 && name.toList == name'.toList) := ⟨_, rfl⟩
 rw [<- hc7]
 have Hc7 := VL hc7
 clear hc7
 refine Yn _ rfl rfl (.bool c7) rfl ?_
 go_frame
 refine ZZ (c7) 51 _ 11 rfl ⟨q1, 0, none⟩ ⟨q1, 11, none⟩ (by cases c7 <;> rfl) (fun h => by cases c7 <;> first | rfl | cases h) (fld51_11 _ _) ?_
 go_frame
 refine Zk (c7) 42 _ rfl ⟨q1, 11, none⟩ (.int .u16 base) (by cases c7 <;> rfl) (fun h => by cases c7 <;> first | rfl | cases h) (ld42 (show _ = some (.int .u16 base : Value) from hq1 11)) ?_
 go_frame
 refine ZZ (c7) 51 _ 11 rfl ⟨q3, 0, none⟩ ⟨q3, 11, none⟩ (by cases c7 <;> rfl) (fun h => by cases c7 <;> first | rfl | cases h) (fld51_11 _ _) ?_
 go_frame
 refine Zk (c7) 42 _ rfl ⟨q3, 11, none⟩ (.int .u16 base') (by cases c7 <;> rfl) (fun h => by cases c7 <;> first | rfl | cases h) (ld42 (show _ = some (.int .u16 base' : Value) from hq3 11)) ?_
 go_frame
 refine Y3 (c7) .eql 42 _ _ _ rfl (.int .u16 base) (.int .u16 base') (.bool (base == base')) (by cases c7 <;> rfl) (fun h => by cases c7 <;> first | rfl | cases h) (fun h => by cases c7 <;> first | rfl | cases h) (Yj _ _ _ _ _ _ _ _) (beql42 _ _ _) ?_
 go_frame
 refine X8 _ _ rfl rfl c7 (base == base') rfl (fun h => by cases c7 <;> first | rfl | cases h) ?_
 go_frame
 obtain ⟨c8, hc8⟩ : ∃ c : Bool, c = (c7 && base == base') := ⟨_, rfl⟩
 rw [<- hc8]
 have Hc8 := VL hc8
 clear hc8
 refine Yn _ rfl rfl (.bool c8) rfl ?_
 go_frame
 refine ZZ (c8) 51 _ 12 rfl ⟨q1, 0, none⟩ ⟨q1, 12, none⟩ (by cases c8 <;> rfl) (fun h => by cases c8 <;> first | rfl | cases h) (fld51_12 _ _) ?_
 go_frame
 refine Zk (c8) 43 _ rfl ⟨q1, 12, none⟩ (.int .u32 ref) (by cases c8 <;> rfl) (fun h => by cases c8 <;> first | rfl | cases h) (WQ (show _ = some (.int .u32 ref : Value) from hq1 12)) ?_
 go_frame
 refine ZZ (c8) 51 _ 12 rfl ⟨q3, 0, none⟩ ⟨q3, 12, none⟩ (by cases c8 <;> rfl) (fun h => by cases c8 <;> first | rfl | cases h) (fld51_12 _ _) ?_
 go_frame
 refine Zk (c8) 43 _ rfl ⟨q3, 12, none⟩ (.int .u32 ref') (by cases c8 <;> rfl) (fun h => by cases c8 <;> first | rfl | cases h) (WQ (show _ = some (.int .u32 ref' : Value) from hq3 12)) ?_
 go_frame
 refine Y3 (c8) .eql 43 _ _ _ rfl (.int .u32 ref) (.int .u32 ref') (.bool (ref == ref')) (by cases c8 <;> rfl) (fun h => by cases c8 <;> first | rfl | cases h) (fun h => by cases c8 <;> first | rfl | cases h) (Yj _ _ _ _ _ _ _ _) (beql43 _ _ _) ?_
 go_frame
 refine X8 _ _ rfl rfl c8 (ref == ref') rfl (fun h => by cases c8 <;> first | rfl | cases h) ?_
 go_frame
 obtain ⟨c9, hc9⟩ : ∃ c : Bool, c = (c8 && ref == ref') := ⟨_, rfl⟩
 rw [<- hc9]
 have Hc9 := VL hc9
 clear hc9
 refine Yn _ rfl rfl (.bool c9) rfl ?_
 go_frame
 refine ZZ (c9) 51 _ 13 rfl ⟨q1, 0, none⟩ ⟨q1, 13, none⟩ (by cases c9 <;> rfl) (fun h => by cases c9 <;> first | rfl | cases h) (fld51_13 _ _) ?_
 go_frame
 refine Zk (c9) 5 _ rfl ⟨q1, 13, none⟩ (.int .u8 count) (by cases c9 <;> rfl) (fun h => by cases c9 <;> first | rfl | cases h) (ld5 (show _ = some (.int .u8 count : Value) from hq1 13)) ?_
 go_frame
 refine ZZ (c9) 51 _ 13 rfl ⟨q3, 0, none⟩ ⟨q3, 13, none⟩ (by cases c9 <;> rfl) (fun h => by cases c9 <;> first | rfl | cases h) (fld51_13 _ _) ?_
 go_frame
 refine Zk (c9) 5 _ rfl ⟨q3, 13, none⟩ (.int .u8 YX) (by cases c9 <;> rfl) (fun h => by cases c9 <;> first | rfl | cases h) (ld5 (show _ = some (.int .u8 YX : Value) from hq3 13)) ?_
 go_frame
 refine Y3 (c9) .eql 5 _ _ _ rfl (.int .u8 count) (.int .u8 YX) (.bool (count == YX)) (by cases c9 <;> rfl) (fun h => by cases c9 <;> first | rfl | cases h) (fun h => by cases c9 <;> first | rfl | cases h) (Yj _ _ _ _ _ _ _ _) (beql5 _ _ _) ?_
 go_frame
 refine X8 _ _ rfl rfl c9 (count == YX) rfl (fun h => by cases c9 <;> first | rfl | cases h) ?_
 go_frame
 obtain ⟨c10, hc10⟩ : ∃ c : Bool, c = (c9 && count == YX) := ⟨_, rfl⟩
 rw [<- hc10]
 have Hc10 := VL hc10
 clear hc10
 refine Yn _ rfl rfl (.bool c10) rfl ?_
 go_frame
 refine ZZ (c10) 51 _ 7 rfl ⟨q1, 0, none⟩ ⟨q1, 7, none⟩ (by cases c10 <;> rfl) (fun h => by cases c10 <;> first | rfl | cases h) (fld51_7 _ _) ?_
 go_frame
 refine Zk (c10) 46 _ rfl ⟨q1, 7, none⟩ (.slice rA rn rc) (by cases c10 <;> rfl) (fun h => by cases c10 <;> first | rfl | cases h) (ld46 (show _ = some (.slice rA rn rc : Value) from hq1 7)) ?_
 go_frame
 refine Xe (c10) _ 46 _ rfl Try.underlying46 _ (rn) _ (by cases c10 <;> rfl) (fun h => by cases c10 <;> first | rfl | cases h) ?_
 go_frame
 refine ZZ (c10) 51 _ 7 rfl ⟨q3, 0, none⟩ ⟨q3, 7, none⟩ (by cases c10 <;> rfl) (fun h => by cases c10 <;> first | rfl | cases h) (fld51_7 _ _) ?_
 go_frame
 refine Zk (c10) 46 _ rfl ⟨q3, 7, none⟩ (.slice rA' rn' rc') (by cases c10 <;> rfl) (fun h => by cases c10 <;> first | rfl | cases h) (ld46 (show _ = some (.slice rA' rn' rc' : Value) from hq3 7)) ?_
 go_frame
 refine Xe (c10) _ 46 _ rfl Try.underlying46 _ (rn') _ (by cases c10 <;> rfl) (fun h => by cases c10 <;> first | rfl | cases h) ?_
 go_frame
 refine Y3 (c10) .eql 3 _ _ _ rfl (.int .i64 (rn : Int)) (.int .i64 (rn' : Int)) (.bool ((rn : Int) == (rn' : Int))) (by cases c10 <;> rfl) (fun h => by cases c10 <;> first | rfl | cases h) (fun h => by cases c10 <;> first | rfl | cases h) (Yj _ _ _ _ _ _ _ _) (beql3 _ _ _) ?_
 go_frame
 refine X8 _ _ rfl rfl c10 ((rn : Int) == (rn' : Int)) rfl (fun h => by cases c10 <;> first | rfl | cases h) ?_
 go_frame
 obtain ⟨c11, hc11⟩ : ∃ c : Bool, c = (c10 && (rn : Int) == (rn' : Int)) := ⟨_, rfl⟩
 rw [<- hc11]
 have Hc11 := VL hc11
 clear hc11
 refine Yn _ rfl rfl (.bool c11) rfl ?_
 go_frame
 refine ZZ (c11) 51 _ 9 rfl ⟨q1, 0, none⟩ ⟨q1, 9, none⟩ (by cases c11 <;> rfl) (fun h => by cases c11 <;> first | rfl | cases h) (fld51_9 _ _) ?_
 go_frame
 refine Zk (c11) 47 _ rfl ⟨q1, 9, none⟩ (.slice sA sn sc) (by cases c11 <;> rfl) (fun h => by cases c11 <;> first | rfl | cases h) (ld47 (show _ = some (.slice sA sn sc : Value) from hq1 9)) ?_
 go_frame
 refine Xe (c11) _ 47 _ rfl Try.underlying47 _ (sn) _ (by cases c11 <;> rfl) (fun h => by cases c11 <;> first | rfl | cases h) ?_
 go_frame
 refine ZZ (c11) 51 _ 9 rfl ⟨q3, 0, none⟩ ⟨q3, 9, none⟩ (by cases c11 <;> rfl) (fun h => by cases c11 <;> first | rfl | cases h) (fld51_9 _ _) ?_
 go_frame
 refine Zk (c11) 47 _ rfl ⟨q3, 9, none⟩ (.slice sA' sn' sc') (by cases c11 <;> rfl) (fun h => by cases c11 <;> first | rfl | cases h) (ld47 (show _ = some (.slice sA' sn' sc' : Value) from hq3 9)) ?_
 go_frame
 refine Xe (c11) _ 47 _ rfl Try.underlying47 _ (sn') _ (by cases c11 <;> rfl) (fun h => by cases c11 <;> first | rfl | cases h) ?_
 go_frame
 refine Y3 (c11) .eql 3 _ _ _ rfl (.int .i64 (sn : Int)) (.int .i64 (sn' : Int)) (.bool ((sn : Int) == (sn' : Int))) (by cases c11 <;> rfl) (fun h => by cases c11 <;> first | rfl | cases h) (fun h => by cases c11 <;> first | rfl | cases h) (Yj _ _ _ _ _ _ _ _) (beql3 _ _ _) ?_
 go_frame
 refine X8 _ _ rfl rfl c11 ((sn : Int) == (sn' : Int)) rfl (fun h => by cases c11 <;> first | rfl | cases h) ?_
 go_frame
 obtain ⟨c12, hc12⟩ : ∃ c : Bool, c = (c11 && (sn : Int) == (sn' : Int)) := ⟨_, rfl⟩
 rw [<- hc12]
 have Hc12 := VL hc12
 clear hc12
 refine Yn _ rfl rfl (.bool c12) rfl ?_
 go_frame
 refine ZZ (c12) 51 _ 10 rfl ⟨q1, 0, none⟩ ⟨q1, 10, none⟩ (by cases c12 <;> rfl) (fun h => by cases c12 <;> first | rfl | cases h) (fld51_10 _ _) ?_
 go_frame
 refine Zk (c12) 44 _ rfl ⟨q1, 10, none⟩ (.slice qA qn qc) (by cases c12 <;> rfl) (fun h => by cases c12 <;> first | rfl | cases h) (ld44 (show _ = some (.slice qA qn qc : Value) from hq1 10)) ?_
 go_frame
 refine Xe (c12) _ 44 _ rfl Try.underlying44 _ (qn) _ (by cases c12 <;> rfl) (fun h => by cases c12 <;> first | rfl | cases h) ?_
 go_frame
 refine ZZ (c12) 51 _ 10 rfl ⟨q3, 0, none⟩ ⟨q3, 10, none⟩ (by cases c12 <;> rfl) (fun h => by cases c12 <;> first | rfl | cases h) (fld51_10 _ _) ?_
 go_frame
 refine Zk (c12) 44 _ rfl ⟨q3, 10, none⟩ (.slice qA' qn' qc') (by cases c12 <;> rfl) (fun h => by cases c12 <;> first | rfl | cases h) (ld44 (show _ = some (.slice qA' qn' qc' : Value) from hq3 10)) ?_
 go_frame
 refine Xe (c12) _ 44 _ rfl Try.underlying44 _ (qn') _ (by cases c12 <;> rfl) (fun h => by cases c12 <;> first | rfl | cases h) ?_
 go_frame
 refine Y3 (c12) .eql 3 _ _ _ rfl (.int .i64 (qn : Int)) (.int .i64 (qn' : Int)) (.bool ((qn : Int) == (qn' : Int))) (by cases c12 <;> rfl) (fun h => by cases c12 <;> first | rfl | cases h) (fun h => by cases c12 <;> first | rfl | cases h) (Yj _ _ _ _ _ _ _ _) (beql3 _ _ _) ?_
 go_frame
 refine X8 _ _ rfl rfl c12 ((qn : Int) == (qn' : Int)) rfl (fun h => by cases c12 <;> first | rfl | cases h) ?_
 go_frame
 obtain ⟨c13, hc13⟩ : ∃ c : Bool, c = (c12 && (qn : Int) == (qn' : Int)) := ⟨_, rfl⟩
 rw [<- hc13]
 have Hc13 := VL hc13
 clear hc13
 refine Yn _ rfl rfl (.bool c13) rfl ?_
 go_frame
 refine ZZ (c13) 51 _ 14 rfl ⟨q1, 0, none⟩ ⟨q1, 14, none⟩ (by cases c13 <;> rfl) (fun h => by cases c13 <;> first | rfl | cases h) (fld51_14 _ _) ?_
 go_frame
 refine Zk (c13) 48 _ rfl ⟨q1, 14, none⟩ (.slice aA an ac) (by cases c13 <;> rfl) (fun h => by cases c13 <;> first | rfl | cases h) (ld48 (show _ = some (.slice aA an ac : Value) from hq1 14)) ?_
 go_frame
 refine Xe (c13) _ 48 _ rfl Try.underlying48 _ (an) _ (by cases c13 <;> rfl) (fun h => by cases c13 <;> first | rfl | cases h) ?_
 go_frame
 refine ZZ (c13) 51 _ 14 rfl ⟨q3, 0, none⟩ ⟨q3, 14, none⟩ (by cases c13 <;> rfl) (fun h => by cases c13 <;> first | rfl | cases h) (fld51_14 _ _) ?_
 go_frame
 refine Zk (c13) 48 _ rfl ⟨q3, 14, none⟩ (.slice aA' an' ac') (by cases c13 <;> rfl) (fun h => by cases c13 <;> first | rfl | cases h) (ld48 (show _ = some (.slice aA' an' ac' : Value) from hq3 14)) ?_
 go_frame
 refine Xe (c13) _ 48 _ rfl Try.underlying48 _ (an') _ (by cases c13 <;> rfl) (fun h => by cases c13 <;> first | rfl | cases h) ?_
 go_frame
 refine Y3 (c13) .eql 3 _ _ _ rfl (.int .i64 (an : Int)) (.int .i64 (an' : Int)) (.bool ((an : Int) == (an' : Int))) (by cases c13 <;> rfl) (fun h => by cases c13 <;> first | rfl | cases h) (fun h => by cases c13 <;> first | rfl | cases h) (Yj _ _ _ _ _ _ _ _) (beql3 _ _ _) ?_
 go_frame
 refine X8 _ _ rfl rfl c13 ((an : Int) == (an' : Int)) rfl (fun h => by cases c13 <;> first | rfl | cases h) ?_
 go_frame
 obtain ⟨c14, hc14⟩ : ∃ c : Bool, c = (c13 && (an : Int) == (an' : Int)) := ⟨_, rfl⟩
 rw [<- hc14]
 have Hc14 := VL hc14
 clear hc14
 refine Yn _ rfl rfl (.bool c14) rfl ?_
 go_frame
 refine ZZ (c14) 51 _ 15 rfl ⟨q1, 0, none⟩ ⟨q1, 15, none⟩ (by cases c14 <;> rfl) (fun h => by cases c14 <;> first | rfl | cases h) (fld51_15 _ _) ?_
 go_frame
 refine Zk (c14) 49 _ rfl ⟨q1, 15, none⟩ (.slice wA wn wc) (by cases c14 <;> rfl) (fun h => by cases c14 <;> first | rfl | cases h) (ld49 (show _ = some (.slice wA wn wc : Value) from hq1 15)) ?_
 go_frame
 refine Xe (c14) _ 49 _ rfl Try.underlying49 _ (wn) _ (by cases c14 <;> rfl) (fun h => by cases c14 <;> first | rfl | cases h) ?_
 go_frame
 refine ZZ (c14) 51 _ 15 rfl ⟨q3, 0, none⟩ ⟨q3, 15, none⟩ (by cases c14 <;> rfl) (fun h => by cases c14 <;> first | rfl | cases h) (fld51_15 _ _) ?_
 go_frame
 refine Zk (c14) 49 _ rfl ⟨q3, 15, none⟩ (.slice wA' wn' wc') (by cases c14 <;> rfl) (fun h => by cases c14 <;> first | rfl | cases h) (ld49 (show _ = some (.slice wA' wn' wc' : Value) from hq3 15)) ?_
 go_frame
 refine Xe (c14) _ 49 _ rfl Try.underlying49 _ (wn') _ (by cases c14 <;> rfl) (fun h => by cases c14 <;> first | rfl | cases h) ?_
 go_frame
 refine Y3 (c14) .eql 3 _ _ _ rfl (.int .i64 (wn : Int)) (.int .i64 (wn' : Int)) (.bool ((wn : Int) == (wn' : Int))) (by cases c14 <;> rfl) (fun h => by cases c14 <;> first | rfl | cases h) (fun h => by cases c14 <;> first | rfl | cases h) (Yj _ _ _ _ _ _ _ _) (beql3 _ _ _) ?_
 go_frame
 refine X8 _ _ rfl rfl c14 ((wn : Int) == (wn' : Int)) rfl (fun h => by cases c14 <;> first | rfl | cases h) ?_
 go_frame
 obtain ⟨c15, hc15⟩ : ∃ c : Bool, c = (c14 && (wn : Int) == (wn' : Int)) := ⟨_, rfl⟩
 rw [<- hc15]
 have Hc15 := VL hc15
 clear hc15
 have HX := VL (show c15 = ((ZA == YB) && (ZC == YW) && (ZN == XY) && (ZP == XZ) && (ZI == Yx) && (ZJ == Yy) && (name.toList == name'.toList) && (base == base') && (ref == ref') && (count == YX) && ((rn : Int) == (rn' : Int)) && ((sn : Int) == (sn' : Int)) && ((qn : Int) == (qn' : Int)) && ((an : Int) == (an' : Int)) && ((wn : Int) == (wn' : Int))) from by rw [Hc15.out, Hc14.out, Hc13.out, Hc12.out, Hc11.out, Hc10.out, Hc9.out, Hc8.out, Hc7.out, Hc6.out, Hc5.out, Hc4.out, Hc3.out, Hc2.out, Hc1.out])
 go_wp2
 go_returns
 exact YR.mk (.refl I) HS3.out.drop.drop ⟨rfl, congrArg Value.bool HX.out, rfl⟩
def eqRp (x y : Rp) : Bool := (x.src == y.src) && ((x.lost == y.lost) && ((x.total == y.total) && ((x.high == y.high) && ((x.Xw == y.Xw) && ((x.last == y.last) && (x.delay == y.delay))))))
theorem eqRp_iff (x y : Rp) : eqRp x y = true ↔ x = y := by
 obtain ⟨a1, a2, a3, a4, a5, a6, a7⟩ := x
 obtain ⟨b1, b2, b3, b4, b5, b6, b7⟩ := y
 simp [eqRp]
def eqWn (x y : Wn) : Bool := (x.src == y.src) && (x.seq == y.seq)
theorem eqWn_iff (x y : Wn) : eqWn x y = true ↔ x = y := by
 obtain ⟨a1, a2⟩ := x
 obtain ⟨b1, b2⟩ := y
 simp [eqWn]
theorem q43 (d : Nat) (a b : Int) (w : World) : (Op.equalIn (d + 1) 43 (.int .u32 a) (.int .u32 b)).run Try.prog w = .ok (a == b) w := run_equalIn_int w d 43 .u32 .u32 a b Try.underlying43
theorem q5 (d : Nat) (a b : Int) (w : World) : (Op.equalIn (d + 1) 5 (.int .u8 a) (.int .u8 b)).run Try.prog w = .ok (a == b) w := run_equalIn_int w d 5 .u8 .u8 a b Try.underlying5
theorem neq67 (x y : Wn) (w : World) : (binOp .neq 67 (.agg #[.int .u32 x.src, .int .u8 x.seq]) (.agg #[.int .u32 y.src, .int .u8 y.seq])).run Try.prog w = .ok (.bool (!eqWn x y)) w := by
 have h1 := run_equalIn_agg (P := Try.prog) w 9999 67 #[.int .u32 x.src, .int .u8 x.seq] #[.int .u32 y.src, .int .u8 y.seq] (by kernel_rfl) (by kernel_rfl)
 have hf : (Try.prog.fieldsOf 67).toList = [⟨"Source", 43, 0, false, "", "", 0⟩, ⟨"Seq", 5, 1, false, "", "", 4⟩] := by kernel_rfl
 rw [hf] at h1
 rw [run_neq_struct, h1]
 have u1 := fun a b w => q43 9998 a b w
 have u2 := fun a b w => q5 9998 a b w
 simp only [Op.eqFields, part, isAgg, Sem.run_bind, Sem.run_ite, run_underlying Try.underlying43, run_underlying Try.underlying5, Result.andThen_ok, Sem.run_pure]
 unfold eqWn
 cases e1 : (x.src == y.src) <;> cases e2 : (x.seq == y.seq) <;> simp [u1, u2, e1, e2, go_sem]
theorem neq64 (x y : Rp) (w : World) : (binOp .neq 64 (.agg #[.int .u32 x.src, .int .u8 x.lost, .int .u32 x.total, .int .u32 x.high, .int .u32 x.Xw, .int .u32 x.last, .int .u32 x.delay]) (.agg #[.int .u32 y.src, .int .u8 y.lost, .int .u32 y.total, .int .u32 y.high, .int .u32 y.Xw, .int .u32 y.last, .int .u32 y.delay])).run Try.prog w = .ok (.bool (!eqRp x y)) w := by
 have h1 := run_equalIn_agg (P := Try.prog) w 9999 64 #[.int .u32 x.src, .int .u8 x.lost, .int .u32 x.total, .int .u32 x.high, .int .u32 x.Xw, .int .u32 x.last, .int .u32 x.delay] #[.int .u32 y.src, .int .u8 y.lost, .int .u32 y.total, .int .u32 y.high, .int .u32 y.Xw, .int .u32 y.last, .int .u32 y.delay] (by kernel_rfl) (by kernel_rfl)
 have hf : (Try.prog.fieldsOf 64).toList = [⟨"Source", 43, 0, false, "", "", 0⟩, ⟨"Lost", 5, 1, false, "", "", 4⟩, ⟨"Total", 43, 2, false, "", "", 8⟩, ⟨"High", 43, 3, false, "", "", 12⟩, ⟨"Jitter", 43, 4, false, "", "", 16⟩, ⟨"Last", 43, 5, false, "", "", 20⟩, ⟨"Delay", 43, 6, false, "", "", 24⟩] := by kernel_rfl
 rw [hf] at h1
 rw [run_neq_struct, h1]
 have u1 := fun a b w => q43 9998 a b w
 have u2 := fun a b w => q5 9998 a b w
 simp only [Op.eqFields, part, isAgg, Sem.run_bind, Sem.run_ite, run_underlying Try.underlying43, run_underlying Try.underlying5, Result.andThen_ok, Sem.run_pure]
 unfold eqRp
 cases e1 : (x.src == y.src)
 ·simp [u1, u2, e1, go_sem]
 cases e2 : (x.lost == y.lost)
 ·simp [u1, u2, e1, e2, go_sem]
 cases e3 : (x.total == y.total)
 ·simp [u1, u2, e1, e2, e3, go_sem]
 cases e4 : (x.high == y.high)
 ·simp [u1, u2, e1, e2, e3, e4, go_sem]
 cases e5 : (x.Xw == y.Xw)
 ·simp [u1, u2, e1, e2, e3, e4, e5, go_sem]
 cases e6 : (x.last == y.last)
 ·simp [u1, u2, e1, e2, e3, e4, e5, e6, go_sem]
 cases e7 : (x.delay == y.delay) <;> simp [u1, u2, e1, e2, e3, e4, e5, e6, e7, go_sem]
end Go.Proofs.Ytddopbbmgpnjjaa
