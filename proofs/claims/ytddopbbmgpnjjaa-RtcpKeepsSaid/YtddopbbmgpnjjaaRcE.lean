/- rtcp.Packet.clean. -/
import Derived.Test.YtddopbbmgpnjjaaRcC
import Derived.Test.YtddopbbmgpnjjaaGd
namespace Go.Proofs.Ytddopbbmgpnjjaa
open Go.RowKit
set_option linter.unusedSimpArgs false

theorem fld51_0 (g : Nat) (w : World) : (Instr.fieldAt 51 (.pointer (some ⟨g, 0, none⟩)) 0).run Try.prog w = .ok (.pointer (some ⟨g, 0, none⟩)) w := by go_simp
theorem fld51_1 (g : Nat) (w : World) : (Instr.fieldAt 51 (.pointer (some ⟨g, 0, none⟩)) 1).run Try.prog w = .ok (.pointer (some ⟨g, 1, none⟩)) w := by go_simp
theorem fld51_2 (g : Nat) (w : World) : (Instr.fieldAt 51 (.pointer (some ⟨g, 0, none⟩)) 2).run Try.prog w = .ok (.pointer (some ⟨g, 2, none⟩)) w := by go_simp
theorem fld51_3 (g : Nat) (w : World) : (Instr.fieldAt 51 (.pointer (some ⟨g, 0, none⟩)) 3).run Try.prog w = .ok (.pointer (some ⟨g, 3, none⟩)) w := by go_simp
theorem fld51_4 (g : Nat) (w : World) : (Instr.fieldAt 51 (.pointer (some ⟨g, 0, none⟩)) 4).run Try.prog w = .ok (.pointer (some ⟨g, 4, none⟩)) w := by go_simp
theorem fld51_5 (g : Nat) (w : World) : (Instr.fieldAt 51 (.pointer (some ⟨g, 0, none⟩)) 5).run Try.prog w = .ok (.pointer (some ⟨g, 5, none⟩)) w := by go_simp
theorem fld51_6 (g : Nat) (w : World) : (Instr.fieldAt 51 (.pointer (some ⟨g, 0, none⟩)) 6).run Try.prog w = .ok (.pointer (some ⟨g, 6, none⟩)) w := by go_simp
theorem fld51_7 (g : Nat) (w : World) : (Instr.fieldAt 51 (.pointer (some ⟨g, 0, none⟩)) 7).run Try.prog w = .ok (.pointer (some ⟨g, 7, none⟩)) w := by go_simp
theorem fld51_8 (g : Nat) (w : World) : (Instr.fieldAt 51 (.pointer (some ⟨g, 0, none⟩)) 8).run Try.prog w = .ok (.pointer (some ⟨g, 8, none⟩)) w := by go_simp
theorem fld51_9 (g : Nat) (w : World) : (Instr.fieldAt 51 (.pointer (some ⟨g, 0, none⟩)) 9).run Try.prog w = .ok (.pointer (some ⟨g, 9, none⟩)) w := by go_simp
theorem fld51_10 (g : Nat) (w : World) : (Instr.fieldAt 51 (.pointer (some ⟨g, 0, none⟩)) 10).run Try.prog w = .ok (.pointer (some ⟨g, 10, none⟩)) w := by go_simp
theorem fld51_11 (g : Nat) (w : World) : (Instr.fieldAt 51 (.pointer (some ⟨g, 0, none⟩)) 11).run Try.prog w = .ok (.pointer (some ⟨g, 11, none⟩)) w := by go_simp
theorem fld51_12 (g : Nat) (w : World) : (Instr.fieldAt 51 (.pointer (some ⟨g, 0, none⟩)) 12).run Try.prog w = .ok (.pointer (some ⟨g, 12, none⟩)) w := by go_simp
theorem fld51_13 (g : Nat) (w : World) : (Instr.fieldAt 51 (.pointer (some ⟨g, 0, none⟩)) 13).run Try.prog w = .ok (.pointer (some ⟨g, 13, none⟩)) w := by go_simp
theorem fld51_14 (g : Nat) (w : World) : (Instr.fieldAt 51 (.pointer (some ⟨g, 0, none⟩)) 14).run Try.prog w = .ok (.pointer (some ⟨g, 14, none⟩)) w := by go_simp
theorem fld51_15 (g : Nat) (w : World) : (Instr.fieldAt 51 (.pointer (some ⟨g, 0, none⟩)) 15).run Try.prog w = .ok (.pointer (some ⟨g, 15, none⟩)) w := by go_simp
theorem ld3 {p : Addr} {u : Value} {w : World} (h : w.cell? p = some u) : (Instr.loadAt 3 (.pointer (some p))).run Try.prog w = .ok u w := by
  go_simp
theorem ld43 {p : Addr} {u : Value} {w : World} (h : w.cell? p = some u) : (Instr.loadAt 43 (.pointer (some p))).run Try.prog w = .ok u w := by
  go_simp
theorem ld45 {p : Addr} {u : Value} {w : World} (h : w.cell? p = some u) : (Instr.loadAt 45 (.pointer (some p))).run Try.prog w = .ok u w := by
  go_simp
theorem ld42 {p : Addr} {u : Value} {w : World} (h : w.cell? p = some u) : (Instr.loadAt 42 (.pointer (some p))).run Try.prog w = .ok u w := by
  go_simp
theorem ld5 {p : Addr} {u : Value} {w : World} (h : w.cell? p = some u) : (Instr.loadAt 5 (.pointer (some p))).run Try.prog w = .ok u w := by
  go_simp
theorem ld9 {p : Addr} {u : Value} {w : World} (h : w.cell? p = some u) : (Instr.loadAt 9 (.pointer (some p))).run Try.prog w = .ok u w := by
  go_simp
theorem ld46 {p : Addr} {u : Value} {w : World} (h : w.cell? p = some u) : (Instr.loadAt 46 (.pointer (some p))).run Try.prog w = .ok u w := by
  go_simp
theorem ld47 {p : Addr} {u : Value} {w : World} (h : w.cell? p = some u) : (Instr.loadAt 47 (.pointer (some p))).run Try.prog w = .ok u w := by
  go_simp
theorem ld44 {p : Addr} {u : Value} {w : World} (h : w.cell? p = some u) : (Instr.loadAt 44 (.pointer (some p))).run Try.prog w = .ok u w := by
  go_simp
theorem ld48 {p : Addr} {u : Value} {w : World} (h : w.cell? p = some u) : (Instr.loadAt 48 (.pointer (some p))).run Try.prog w = .ok u w := by
  go_simp
theorem ld49 {p : Addr} {u : Value} {w : World} (h : w.cell? p = some u) : (Instr.loadAt 49 (.pointer (some p))).run Try.prog w = .ok u w := by
  go_simp
theorem beql3 (a b : Int) (w : World) : (binOp .eql 3 (.int .i64 a) (.int .i64 b)).run Try.prog w = .ok (.bool (a == b)) w := by go_simp
theorem beql43 (a b : Int) (w : World) : (binOp .eql 43 (.int .u32 a) (.int .u32 b)).run Try.prog w = .ok (.bool (a == b)) w := by go_simp
theorem beql45 (a b : Int) (w : World) : (binOp .eql 45 (.int .u64 a) (.int .u64 b)).run Try.prog w = .ok (.bool (a == b)) w := by go_simp
theorem beql42 (a b : Int) (w : World) : (binOp .eql 42 (.int .u16 a) (.int .u16 b)).run Try.prog w = .ok (.bool (a == b)) w := by go_simp
theorem beql5 (a b : Int) (w : World) : (binOp .eql 5 (.int .u8 a) (.int .u8 b)).run Try.prog w = .ok (.bool (a == b)) w := by go_simp
theorem beql9 (s t : ByteArray) (w : World) : (binOp .eql 9 (.string s) (.string t)).run Try.prog w = .ok (.bool (s.toList == t.toList)) w := by go_simp
set_option maxRecDepth 100000 in
set_option maxHeartbeats 8000000 in
theorem clean46 (I : Img) (M : List Res) (w : World) (kind sender media ntp rtp pkts octs : Int) (rA : Option Addr) (rn rc : Nat) (name : ByteArray) (sA : Option Addr) (sn sc : Nat) (qA : Option Addr) (qn qc : Nat) (base ref count : Int) (aA : Option Addr) (an ac : Nat) (wA : Option Addr) (wn wc : Nat) (kind' sender' media' ntp' rtp' pkts' octs' : Int) (rA' : Option Addr) (rn' rc' : Nat) (name' : ByteArray) (sA' : Option Addr) (sn' sc' : Nat) (qA' : Option Addr) (qn' qc' : Nat) (base' ref' count' : Int) (aA' : Option Addr) (an' ac' : Nat) (wA' : Option Addr) (wn' wc' : Nat) (hst : St I M w)
    (HB : Hid (∀ M1 w1, St I M1 w1 → Calls Try.prog 69 #[.agg #[.int .i64 kind, .int .u32 sender, .int .u32 media, .int .u64 ntp, .int .u32 rtp, .int .u32 pkts, .int .u32 octs, .slice rA rn rc, .string name, .slice sA sn sc, .slice qA qn qc, .int .u16 base, .int .u32 ref, .int .u8 count, .slice aA an ac, .slice wA wn wc]] w1 (Ret I (fun u J M' => I = J ∧ u = .agg #[.int .i64 kind', .int .u32 sender', .int .u32 media', .int .u64 ntp', .int .u32 rtp', .int .u32 pkts', .int .u32 octs', .slice rA' rn' rc', .string name', .slice sA' sn' sc', .slice qA' qn' qc', .int .u16 base', .int .u32 ref', .int .u8 count', .slice aA' an' ac', .slice wA' wn' wc'] ∧ M' = M1)))) :
    Calls Try.prog 46 #[.agg #[.int .i64 kind, .int .u32 sender, .int .u32 media, .int .u64 ntp, .int .u32 rtp, .int .u32 pkts, .int .u32 octs, .slice rA rn rc, .string name, .slice sA sn sc, .slice qA qn qc, .int .u16 base, .int .u32 ref, .int .u8 count, .slice aA an ac, .slice wA wn wc]] w (Ret I (fun u J M' => I = J ∧ u = .bool ((sender == sender') && (media == media') && (ntp == ntp') && (rtp == rtp') && (pkts == pkts') && (octs == octs') && (name.toList == name'.toList) && (base == base') && (ref == ref') && (count == count') && ((rn : Int) == (rn' : Int)) && ((sn : Int) == (sn' : Int)) && ((qn : Int) == (qn' : Int)) && ((an : Int) == (an' : Int)) && ((wn : Int) == (wn' : Int))) ∧ M' = M)) := by
  have hs1 := hst.alloc 51 #[.int .i64 kind, .int .u32 sender, .int .u32 media, .int .u64 ntp, .int .u32 rtp, .int .u32 pkts, .int .u32 octs, .slice rA rn rc, .string name, .slice sA sn sc, .slice qA qn qc, .int .u16 base, .int .u32 ref, .int .u8 count, .slice aA an ac, .slice wA wn wc]
  obtain ⟨fs, hd⟩ := st51D
  clear hst
  go_enter Try.func46, Try.ntmps46
  go_upto_region 1 with fail
  obtain ⟨q1, hq1⟩ : ∃ q, q = w.heap.size := ⟨_, rfl⟩
  rw [← hq1] at hs1 ⊢
  generalize World.alloc w _ = W at hs1 ⊢
  clear hq1
  have hb1 : Blk W q1 51 #[.int .i64 kind, .int .u32 sender, .int .u32 media, .int .u64 ntp, .int .u32 rtp, .int .u32 pkts, .int .u32 octs, .slice rA rn rc, .string name, .slice sA sn sc, .slice qA qn qc, .int .u16 base, .int .u32 ref, .int .u8 count, .slice aA an ac, .slice wA wn wc] := hs1.at 0 rfl
  have HC := Lib.hid (HB.out _ W hs1)
  have HH1 := Lib.hid hs1
  clear hs1 HB
  go_wp2_with (refine wpList_load_row rfl 51 (.tmp 1) rfl q1 rfl 51 _ (0, 0) _ hb1 hd rfl st51I ?_)
  go_at_call 69
  refine HC.out.mono ?_
  rintro e W2 ⟨_, _, _, rfl, _, hs2, rfl, rfl, rfl⟩
  have hs3 := hs2.alloc 51 #[.int .i64 kind', .int .u32 sender', .int .u32 media', .int .u64 ntp', .int .u32 rtp', .int .u32 pkts', .int .u32 octs', .slice rA' rn' rc', .string name', .slice sA' sn' sc', .slice qA' qn' qc', .int .u16 base', .int .u32 ref', .int .u8 count', .slice aA' an' ac', .slice wA' wn' wc']
  clear HC HH1 hb1 hs2
  go_upto_region 2 with fail
  obtain ⟨q3, hq3⟩ : ∃ q, q = W2.heap.size := ⟨_, rfl⟩
  rw [← hq3] at hs3 ⊢
  generalize World.alloc W2 _ = W3 at hs3 ⊢
  clear hq3
  obtain ⟨hq1, _, _⟩ := Blk.all (hs3.at 1 rfl)
  obtain ⟨hq3, _, _⟩ := Blk.all (hs3.at 0 rfl)
  have HS3 := Lib.hid hs3
  clear hs3
  refine wp_region_lit ?_
  refine gd_field (true) 51 _ 1 rfl ⟨q1, 0, none⟩ ⟨q1, 1, none⟩ rfl (fun _ => rfl) (fld51_1 _ _) ?_
  simp only [Act.put, List.setIfInBounds_toArray, List.set_cons_succ, List.set_cons_zero]
  refine gd_load (true) 43 _ rfl ⟨q1, 1, none⟩ (.int .u32 sender) rfl (fun _ => rfl) (ld43 (show _ = some (.int .u32 sender : Value) from hq1 1)) ?_
  simp only [Act.put, List.setIfInBounds_toArray, List.set_cons_succ, List.set_cons_zero]
  refine gd_field (true) 51 _ 1 rfl ⟨q3, 0, none⟩ ⟨q3, 1, none⟩ rfl (fun _ => rfl) (fld51_1 _ _) ?_
  simp only [Act.put, List.setIfInBounds_toArray, List.set_cons_succ, List.set_cons_zero]
  refine gd_load (true) 43 _ rfl ⟨q3, 1, none⟩ (.int .u32 sender') rfl (fun _ => rfl) (ld43 (show _ = some (.int .u32 sender' : Value) from hq3 1)) ?_
  simp only [Act.put, List.setIfInBounds_toArray, List.set_cons_succ, List.set_cons_zero]
  refine gd_bin (true) .eql 43 _ _ _ rfl (.int .u32 sender) (.int .u32 sender') (.bool (sender == sender')) rfl (fun _ => rfl) (fun _ => rfl) (eqg_int _ _ _ _ _ _ _ _) (beql43 _ _ _) ?_
  simp only [Act.put, List.setIfInBounds_toArray, List.set_cons_succ, List.set_cons_zero]
  obtain ⟨c1, hc1⟩ : ∃ c : Bool, c = (sender == sender') := ⟨_, rfl⟩
  rw [← hc1]
  have Hc1 := Lib.hid hc1
  clear hc1
  refine gd_move _ rfl rfl (.bool c1) rfl ?_
  simp only [Act.put, List.setIfInBounds_toArray, List.set_cons_succ, List.set_cons_zero]
  refine gd_field (c1) 51 _ 2 rfl ⟨q1, 0, none⟩ ⟨q1, 2, none⟩ (by cases c1 <;> rfl) (fun h => by cases c1 <;> first | rfl | cases h) (fld51_2 _ _) ?_
  simp only [Act.put, List.setIfInBounds_toArray, List.set_cons_succ, List.set_cons_zero]
  refine gd_load (c1) 43 _ rfl ⟨q1, 2, none⟩ (.int .u32 media) (by cases c1 <;> rfl) (fun h => by cases c1 <;> first | rfl | cases h) (ld43 (show _ = some (.int .u32 media : Value) from hq1 2)) ?_
  simp only [Act.put, List.setIfInBounds_toArray, List.set_cons_succ, List.set_cons_zero]
  refine gd_field (c1) 51 _ 2 rfl ⟨q3, 0, none⟩ ⟨q3, 2, none⟩ (by cases c1 <;> rfl) (fun h => by cases c1 <;> first | rfl | cases h) (fld51_2 _ _) ?_
  simp only [Act.put, List.setIfInBounds_toArray, List.set_cons_succ, List.set_cons_zero]
  refine gd_load (c1) 43 _ rfl ⟨q3, 2, none⟩ (.int .u32 media') (by cases c1 <;> rfl) (fun h => by cases c1 <;> first | rfl | cases h) (ld43 (show _ = some (.int .u32 media' : Value) from hq3 2)) ?_
  simp only [Act.put, List.setIfInBounds_toArray, List.set_cons_succ, List.set_cons_zero]
  refine gd_bin (c1) .eql 43 _ _ _ rfl (.int .u32 media) (.int .u32 media') (.bool (media == media')) (by cases c1 <;> rfl) (fun h => by cases c1 <;> first | rfl | cases h) (fun h => by cases c1 <;> first | rfl | cases h) (eqg_int _ _ _ _ _ _ _ _) (beql43 _ _ _) ?_
  simp only [Act.put, List.setIfInBounds_toArray, List.set_cons_succ, List.set_cons_zero]
  refine gd_and _ _ rfl rfl c1 (media == media') rfl (fun h => by cases c1 <;> first | rfl | cases h) ?_
  simp only [Act.put, List.setIfInBounds_toArray, List.set_cons_succ, List.set_cons_zero]
  obtain ⟨c2, hc2⟩ : ∃ c : Bool, c = (c1 && media == media') := ⟨_, rfl⟩
  rw [← hc2]
  have Hc2 := Lib.hid hc2
  clear hc2
  refine gd_move _ rfl rfl (.bool c2) rfl ?_
  simp only [Act.put, List.setIfInBounds_toArray, List.set_cons_succ, List.set_cons_zero]
  refine gd_field (c2) 51 _ 3 rfl ⟨q1, 0, none⟩ ⟨q1, 3, none⟩ (by cases c2 <;> rfl) (fun h => by cases c2 <;> first | rfl | cases h) (fld51_3 _ _) ?_
  simp only [Act.put, List.setIfInBounds_toArray, List.set_cons_succ, List.set_cons_zero]
  refine gd_load (c2) 45 _ rfl ⟨q1, 3, none⟩ (.int .u64 ntp) (by cases c2 <;> rfl) (fun h => by cases c2 <;> first | rfl | cases h) (ld45 (show _ = some (.int .u64 ntp : Value) from hq1 3)) ?_
  simp only [Act.put, List.setIfInBounds_toArray, List.set_cons_succ, List.set_cons_zero]
  refine gd_field (c2) 51 _ 3 rfl ⟨q3, 0, none⟩ ⟨q3, 3, none⟩ (by cases c2 <;> rfl) (fun h => by cases c2 <;> first | rfl | cases h) (fld51_3 _ _) ?_
  simp only [Act.put, List.setIfInBounds_toArray, List.set_cons_succ, List.set_cons_zero]
  refine gd_load (c2) 45 _ rfl ⟨q3, 3, none⟩ (.int .u64 ntp') (by cases c2 <;> rfl) (fun h => by cases c2 <;> first | rfl | cases h) (ld45 (show _ = some (.int .u64 ntp' : Value) from hq3 3)) ?_
  simp only [Act.put, List.setIfInBounds_toArray, List.set_cons_succ, List.set_cons_zero]
  refine gd_bin (c2) .eql 45 _ _ _ rfl (.int .u64 ntp) (.int .u64 ntp') (.bool (ntp == ntp')) (by cases c2 <;> rfl) (fun h => by cases c2 <;> first | rfl | cases h) (fun h => by cases c2 <;> first | rfl | cases h) (eqg_int _ _ _ _ _ _ _ _) (beql45 _ _ _) ?_
  simp only [Act.put, List.setIfInBounds_toArray, List.set_cons_succ, List.set_cons_zero]
  refine gd_and _ _ rfl rfl c2 (ntp == ntp') rfl (fun h => by cases c2 <;> first | rfl | cases h) ?_
  simp only [Act.put, List.setIfInBounds_toArray, List.set_cons_succ, List.set_cons_zero]
  obtain ⟨c3, hc3⟩ : ∃ c : Bool, c = (c2 && ntp == ntp') := ⟨_, rfl⟩
  rw [← hc3]
  have Hc3 := Lib.hid hc3
  clear hc3
  refine gd_move _ rfl rfl (.bool c3) rfl ?_
  simp only [Act.put, List.setIfInBounds_toArray, List.set_cons_succ, List.set_cons_zero]
  refine gd_field (c3) 51 _ 4 rfl ⟨q1, 0, none⟩ ⟨q1, 4, none⟩ (by cases c3 <;> rfl) (fun h => by cases c3 <;> first | rfl | cases h) (fld51_4 _ _) ?_
  simp only [Act.put, List.setIfInBounds_toArray, List.set_cons_succ, List.set_cons_zero]
  refine gd_load (c3) 43 _ rfl ⟨q1, 4, none⟩ (.int .u32 rtp) (by cases c3 <;> rfl) (fun h => by cases c3 <;> first | rfl | cases h) (ld43 (show _ = some (.int .u32 rtp : Value) from hq1 4)) ?_
  simp only [Act.put, List.setIfInBounds_toArray, List.set_cons_succ, List.set_cons_zero]
  refine gd_field (c3) 51 _ 4 rfl ⟨q3, 0, none⟩ ⟨q3, 4, none⟩ (by cases c3 <;> rfl) (fun h => by cases c3 <;> first | rfl | cases h) (fld51_4 _ _) ?_
  simp only [Act.put, List.setIfInBounds_toArray, List.set_cons_succ, List.set_cons_zero]
  refine gd_load (c3) 43 _ rfl ⟨q3, 4, none⟩ (.int .u32 rtp') (by cases c3 <;> rfl) (fun h => by cases c3 <;> first | rfl | cases h) (ld43 (show _ = some (.int .u32 rtp' : Value) from hq3 4)) ?_
  simp only [Act.put, List.setIfInBounds_toArray, List.set_cons_succ, List.set_cons_zero]
  refine gd_bin (c3) .eql 43 _ _ _ rfl (.int .u32 rtp) (.int .u32 rtp') (.bool (rtp == rtp')) (by cases c3 <;> rfl) (fun h => by cases c3 <;> first | rfl | cases h) (fun h => by cases c3 <;> first | rfl | cases h) (eqg_int _ _ _ _ _ _ _ _) (beql43 _ _ _) ?_
  simp only [Act.put, List.setIfInBounds_toArray, List.set_cons_succ, List.set_cons_zero]
  refine gd_and _ _ rfl rfl c3 (rtp == rtp') rfl (fun h => by cases c3 <;> first | rfl | cases h) ?_
  simp only [Act.put, List.setIfInBounds_toArray, List.set_cons_succ, List.set_cons_zero]
  obtain ⟨c4, hc4⟩ : ∃ c : Bool, c = (c3 && rtp == rtp') := ⟨_, rfl⟩
  rw [← hc4]
  have Hc4 := Lib.hid hc4
  clear hc4
  refine gd_move _ rfl rfl (.bool c4) rfl ?_
  simp only [Act.put, List.setIfInBounds_toArray, List.set_cons_succ, List.set_cons_zero]
  refine gd_field (c4) 51 _ 5 rfl ⟨q1, 0, none⟩ ⟨q1, 5, none⟩ (by cases c4 <;> rfl) (fun h => by cases c4 <;> first | rfl | cases h) (fld51_5 _ _) ?_
  simp only [Act.put, List.setIfInBounds_toArray, List.set_cons_succ, List.set_cons_zero]
  refine gd_load (c4) 43 _ rfl ⟨q1, 5, none⟩ (.int .u32 pkts) (by cases c4 <;> rfl) (fun h => by cases c4 <;> first | rfl | cases h) (ld43 (show _ = some (.int .u32 pkts : Value) from hq1 5)) ?_
  simp only [Act.put, List.setIfInBounds_toArray, List.set_cons_succ, List.set_cons_zero]
  refine gd_field (c4) 51 _ 5 rfl ⟨q3, 0, none⟩ ⟨q3, 5, none⟩ (by cases c4 <;> rfl) (fun h => by cases c4 <;> first | rfl | cases h) (fld51_5 _ _) ?_
  simp only [Act.put, List.setIfInBounds_toArray, List.set_cons_succ, List.set_cons_zero]
  refine gd_load (c4) 43 _ rfl ⟨q3, 5, none⟩ (.int .u32 pkts') (by cases c4 <;> rfl) (fun h => by cases c4 <;> first | rfl | cases h) (ld43 (show _ = some (.int .u32 pkts' : Value) from hq3 5)) ?_
  simp only [Act.put, List.setIfInBounds_toArray, List.set_cons_succ, List.set_cons_zero]
  refine gd_bin (c4) .eql 43 _ _ _ rfl (.int .u32 pkts) (.int .u32 pkts') (.bool (pkts == pkts')) (by cases c4 <;> rfl) (fun h => by cases c4 <;> first | rfl | cases h) (fun h => by cases c4 <;> first | rfl | cases h) (eqg_int _ _ _ _ _ _ _ _) (beql43 _ _ _) ?_
  simp only [Act.put, List.setIfInBounds_toArray, List.set_cons_succ, List.set_cons_zero]
  refine gd_and _ _ rfl rfl c4 (pkts == pkts') rfl (fun h => by cases c4 <;> first | rfl | cases h) ?_
  simp only [Act.put, List.setIfInBounds_toArray, List.set_cons_succ, List.set_cons_zero]
  obtain ⟨c5, hc5⟩ : ∃ c : Bool, c = (c4 && pkts == pkts') := ⟨_, rfl⟩
  rw [← hc5]
  have Hc5 := Lib.hid hc5
  clear hc5
  refine gd_move _ rfl rfl (.bool c5) rfl ?_
  simp only [Act.put, List.setIfInBounds_toArray, List.set_cons_succ, List.set_cons_zero]
  refine gd_field (c5) 51 _ 6 rfl ⟨q1, 0, none⟩ ⟨q1, 6, none⟩ (by cases c5 <;> rfl) (fun h => by cases c5 <;> first | rfl | cases h) (fld51_6 _ _) ?_
  simp only [Act.put, List.setIfInBounds_toArray, List.set_cons_succ, List.set_cons_zero]
  refine gd_load (c5) 43 _ rfl ⟨q1, 6, none⟩ (.int .u32 octs) (by cases c5 <;> rfl) (fun h => by cases c5 <;> first | rfl | cases h) (ld43 (show _ = some (.int .u32 octs : Value) from hq1 6)) ?_
  simp only [Act.put, List.setIfInBounds_toArray, List.set_cons_succ, List.set_cons_zero]
  refine gd_field (c5) 51 _ 6 rfl ⟨q3, 0, none⟩ ⟨q3, 6, none⟩ (by cases c5 <;> rfl) (fun h => by cases c5 <;> first | rfl | cases h) (fld51_6 _ _) ?_
  simp only [Act.put, List.setIfInBounds_toArray, List.set_cons_succ, List.set_cons_zero]
  refine gd_load (c5) 43 _ rfl ⟨q3, 6, none⟩ (.int .u32 octs') (by cases c5 <;> rfl) (fun h => by cases c5 <;> first | rfl | cases h) (ld43 (show _ = some (.int .u32 octs' : Value) from hq3 6)) ?_
  simp only [Act.put, List.setIfInBounds_toArray, List.set_cons_succ, List.set_cons_zero]
  refine gd_bin (c5) .eql 43 _ _ _ rfl (.int .u32 octs) (.int .u32 octs') (.bool (octs == octs')) (by cases c5 <;> rfl) (fun h => by cases c5 <;> first | rfl | cases h) (fun h => by cases c5 <;> first | rfl | cases h) (eqg_int _ _ _ _ _ _ _ _) (beql43 _ _ _) ?_
  simp only [Act.put, List.setIfInBounds_toArray, List.set_cons_succ, List.set_cons_zero]
  refine gd_and _ _ rfl rfl c5 (octs == octs') rfl (fun h => by cases c5 <;> first | rfl | cases h) ?_
  simp only [Act.put, List.setIfInBounds_toArray, List.set_cons_succ, List.set_cons_zero]
  obtain ⟨c6, hc6⟩ : ∃ c : Bool, c = (c5 && octs == octs') := ⟨_, rfl⟩
  rw [← hc6]
  have Hc6 := Lib.hid hc6
  clear hc6
  refine gd_move _ rfl rfl (.bool c6) rfl ?_
  simp only [Act.put, List.setIfInBounds_toArray, List.set_cons_succ, List.set_cons_zero]
  refine gd_field (c6) 51 _ 8 rfl ⟨q1, 0, none⟩ ⟨q1, 8, none⟩ (by cases c6 <;> rfl) (fun h => by cases c6 <;> first | rfl | cases h) (fld51_8 _ _) ?_
  simp only [Act.put, List.setIfInBounds_toArray, List.set_cons_succ, List.set_cons_zero]
  refine gd_load (c6) 9 _ rfl ⟨q1, 8, none⟩ (.string name) (by cases c6 <;> rfl) (fun h => by cases c6 <;> first | rfl | cases h) (ld9 (show _ = some (.string name : Value) from hq1 8)) ?_
  simp only [Act.put, List.setIfInBounds_toArray, List.set_cons_succ, List.set_cons_zero]
  refine gd_field (c6) 51 _ 8 rfl ⟨q3, 0, none⟩ ⟨q3, 8, none⟩ (by cases c6 <;> rfl) (fun h => by cases c6 <;> first | rfl | cases h) (fld51_8 _ _) ?_
  simp only [Act.put, List.setIfInBounds_toArray, List.set_cons_succ, List.set_cons_zero]
  refine gd_load (c6) 9 _ rfl ⟨q3, 8, none⟩ (.string name') (by cases c6 <;> rfl) (fun h => by cases c6 <;> first | rfl | cases h) (ld9 (show _ = some (.string name' : Value) from hq3 8)) ?_
  simp only [Act.put, List.setIfInBounds_toArray, List.set_cons_succ, List.set_cons_zero]
  refine gd_bin (c6) .eql 9 _ _ _ rfl (.string name) (.string name') (.bool (name.toList == name'.toList)) (by cases c6 <;> rfl) (fun h => by cases c6 <;> first | rfl | cases h) (fun h => by cases c6 <;> first | rfl | cases h) (eqg_str _ _ _ _ _ _) (beql9 _ _ _) ?_
  simp only [Act.put, List.setIfInBounds_toArray, List.set_cons_succ, List.set_cons_zero]
  refine gd_and _ _ rfl rfl c6 (name.toList == name'.toList) rfl (fun h => by cases c6 <;> first | rfl | cases h) ?_
  simp only [Act.put, List.setIfInBounds_toArray, List.set_cons_succ, List.set_cons_zero]
  obtain ⟨c7, hc7⟩ : ∃ c : Bool, c = (c6 && name.toList == name'.toList) := ⟨_, rfl⟩
  rw [← hc7]
  have Hc7 := Lib.hid hc7
  clear hc7
  refine gd_move _ rfl rfl (.bool c7) rfl ?_
  simp only [Act.put, List.setIfInBounds_toArray, List.set_cons_succ, List.set_cons_zero]
  refine gd_field (c7) 51 _ 11 rfl ⟨q1, 0, none⟩ ⟨q1, 11, none⟩ (by cases c7 <;> rfl) (fun h => by cases c7 <;> first | rfl | cases h) (fld51_11 _ _) ?_
  simp only [Act.put, List.setIfInBounds_toArray, List.set_cons_succ, List.set_cons_zero]
  refine gd_load (c7) 42 _ rfl ⟨q1, 11, none⟩ (.int .u16 base) (by cases c7 <;> rfl) (fun h => by cases c7 <;> first | rfl | cases h) (ld42 (show _ = some (.int .u16 base : Value) from hq1 11)) ?_
  simp only [Act.put, List.setIfInBounds_toArray, List.set_cons_succ, List.set_cons_zero]
  refine gd_field (c7) 51 _ 11 rfl ⟨q3, 0, none⟩ ⟨q3, 11, none⟩ (by cases c7 <;> rfl) (fun h => by cases c7 <;> first | rfl | cases h) (fld51_11 _ _) ?_
  simp only [Act.put, List.setIfInBounds_toArray, List.set_cons_succ, List.set_cons_zero]
  refine gd_load (c7) 42 _ rfl ⟨q3, 11, none⟩ (.int .u16 base') (by cases c7 <;> rfl) (fun h => by cases c7 <;> first | rfl | cases h) (ld42 (show _ = some (.int .u16 base' : Value) from hq3 11)) ?_
  simp only [Act.put, List.setIfInBounds_toArray, List.set_cons_succ, List.set_cons_zero]
  refine gd_bin (c7) .eql 42 _ _ _ rfl (.int .u16 base) (.int .u16 base') (.bool (base == base')) (by cases c7 <;> rfl) (fun h => by cases c7 <;> first | rfl | cases h) (fun h => by cases c7 <;> first | rfl | cases h) (eqg_int _ _ _ _ _ _ _ _) (beql42 _ _ _) ?_
  simp only [Act.put, List.setIfInBounds_toArray, List.set_cons_succ, List.set_cons_zero]
  refine gd_and _ _ rfl rfl c7 (base == base') rfl (fun h => by cases c7 <;> first | rfl | cases h) ?_
  simp only [Act.put, List.setIfInBounds_toArray, List.set_cons_succ, List.set_cons_zero]
  obtain ⟨c8, hc8⟩ : ∃ c : Bool, c = (c7 && base == base') := ⟨_, rfl⟩
  rw [← hc8]
  have Hc8 := Lib.hid hc8
  clear hc8
  refine gd_move _ rfl rfl (.bool c8) rfl ?_
  simp only [Act.put, List.setIfInBounds_toArray, List.set_cons_succ, List.set_cons_zero]
  refine gd_field (c8) 51 _ 12 rfl ⟨q1, 0, none⟩ ⟨q1, 12, none⟩ (by cases c8 <;> rfl) (fun h => by cases c8 <;> first | rfl | cases h) (fld51_12 _ _) ?_
  simp only [Act.put, List.setIfInBounds_toArray, List.set_cons_succ, List.set_cons_zero]
  refine gd_load (c8) 43 _ rfl ⟨q1, 12, none⟩ (.int .u32 ref) (by cases c8 <;> rfl) (fun h => by cases c8 <;> first | rfl | cases h) (ld43 (show _ = some (.int .u32 ref : Value) from hq1 12)) ?_
  simp only [Act.put, List.setIfInBounds_toArray, List.set_cons_succ, List.set_cons_zero]
  refine gd_field (c8) 51 _ 12 rfl ⟨q3, 0, none⟩ ⟨q3, 12, none⟩ (by cases c8 <;> rfl) (fun h => by cases c8 <;> first | rfl | cases h) (fld51_12 _ _) ?_
  simp only [Act.put, List.setIfInBounds_toArray, List.set_cons_succ, List.set_cons_zero]
  refine gd_load (c8) 43 _ rfl ⟨q3, 12, none⟩ (.int .u32 ref') (by cases c8 <;> rfl) (fun h => by cases c8 <;> first | rfl | cases h) (ld43 (show _ = some (.int .u32 ref' : Value) from hq3 12)) ?_
  simp only [Act.put, List.setIfInBounds_toArray, List.set_cons_succ, List.set_cons_zero]
  refine gd_bin (c8) .eql 43 _ _ _ rfl (.int .u32 ref) (.int .u32 ref') (.bool (ref == ref')) (by cases c8 <;> rfl) (fun h => by cases c8 <;> first | rfl | cases h) (fun h => by cases c8 <;> first | rfl | cases h) (eqg_int _ _ _ _ _ _ _ _) (beql43 _ _ _) ?_
  simp only [Act.put, List.setIfInBounds_toArray, List.set_cons_succ, List.set_cons_zero]
  refine gd_and _ _ rfl rfl c8 (ref == ref') rfl (fun h => by cases c8 <;> first | rfl | cases h) ?_
  simp only [Act.put, List.setIfInBounds_toArray, List.set_cons_succ, List.set_cons_zero]
  obtain ⟨c9, hc9⟩ : ∃ c : Bool, c = (c8 && ref == ref') := ⟨_, rfl⟩
  rw [← hc9]
  have Hc9 := Lib.hid hc9
  clear hc9
  refine gd_move _ rfl rfl (.bool c9) rfl ?_
  simp only [Act.put, List.setIfInBounds_toArray, List.set_cons_succ, List.set_cons_zero]
  refine gd_field (c9) 51 _ 13 rfl ⟨q1, 0, none⟩ ⟨q1, 13, none⟩ (by cases c9 <;> rfl) (fun h => by cases c9 <;> first | rfl | cases h) (fld51_13 _ _) ?_
  simp only [Act.put, List.setIfInBounds_toArray, List.set_cons_succ, List.set_cons_zero]
  refine gd_load (c9) 5 _ rfl ⟨q1, 13, none⟩ (.int .u8 count) (by cases c9 <;> rfl) (fun h => by cases c9 <;> first | rfl | cases h) (ld5 (show _ = some (.int .u8 count : Value) from hq1 13)) ?_
  simp only [Act.put, List.setIfInBounds_toArray, List.set_cons_succ, List.set_cons_zero]
  refine gd_field (c9) 51 _ 13 rfl ⟨q3, 0, none⟩ ⟨q3, 13, none⟩ (by cases c9 <;> rfl) (fun h => by cases c9 <;> first | rfl | cases h) (fld51_13 _ _) ?_
  simp only [Act.put, List.setIfInBounds_toArray, List.set_cons_succ, List.set_cons_zero]
  refine gd_load (c9) 5 _ rfl ⟨q3, 13, none⟩ (.int .u8 count') (by cases c9 <;> rfl) (fun h => by cases c9 <;> first | rfl | cases h) (ld5 (show _ = some (.int .u8 count' : Value) from hq3 13)) ?_
  simp only [Act.put, List.setIfInBounds_toArray, List.set_cons_succ, List.set_cons_zero]
  refine gd_bin (c9) .eql 5 _ _ _ rfl (.int .u8 count) (.int .u8 count') (.bool (count == count')) (by cases c9 <;> rfl) (fun h => by cases c9 <;> first | rfl | cases h) (fun h => by cases c9 <;> first | rfl | cases h) (eqg_int _ _ _ _ _ _ _ _) (beql5 _ _ _) ?_
  simp only [Act.put, List.setIfInBounds_toArray, List.set_cons_succ, List.set_cons_zero]
  refine gd_and _ _ rfl rfl c9 (count == count') rfl (fun h => by cases c9 <;> first | rfl | cases h) ?_
  simp only [Act.put, List.setIfInBounds_toArray, List.set_cons_succ, List.set_cons_zero]
  obtain ⟨c10, hc10⟩ : ∃ c : Bool, c = (c9 && count == count') := ⟨_, rfl⟩
  rw [← hc10]
  have Hc10 := Lib.hid hc10
  clear hc10
  refine gd_move _ rfl rfl (.bool c10) rfl ?_
  simp only [Act.put, List.setIfInBounds_toArray, List.set_cons_succ, List.set_cons_zero]
  refine gd_field (c10) 51 _ 7 rfl ⟨q1, 0, none⟩ ⟨q1, 7, none⟩ (by cases c10 <;> rfl) (fun h => by cases c10 <;> first | rfl | cases h) (fld51_7 _ _) ?_
  simp only [Act.put, List.setIfInBounds_toArray, List.set_cons_succ, List.set_cons_zero]
  refine gd_load (c10) 46 _ rfl ⟨q1, 7, none⟩ (.slice rA rn rc) (by cases c10 <;> rfl) (fun h => by cases c10 <;> first | rfl | cases h) (ld46 (show _ = some (.slice rA rn rc : Value) from hq1 7)) ?_
  simp only [Act.put, List.setIfInBounds_toArray, List.set_cons_succ, List.set_cons_zero]
  refine gd_len (c10) _ 46 _ rfl Try.underlying46 _ (rn) _ (by cases c10 <;> rfl) (fun h => by cases c10 <;> first | rfl | cases h) ?_
  simp only [Act.put, List.setIfInBounds_toArray, List.set_cons_succ, List.set_cons_zero]
  refine gd_field (c10) 51 _ 7 rfl ⟨q3, 0, none⟩ ⟨q3, 7, none⟩ (by cases c10 <;> rfl) (fun h => by cases c10 <;> first | rfl | cases h) (fld51_7 _ _) ?_
  simp only [Act.put, List.setIfInBounds_toArray, List.set_cons_succ, List.set_cons_zero]
  refine gd_load (c10) 46 _ rfl ⟨q3, 7, none⟩ (.slice rA' rn' rc') (by cases c10 <;> rfl) (fun h => by cases c10 <;> first | rfl | cases h) (ld46 (show _ = some (.slice rA' rn' rc' : Value) from hq3 7)) ?_
  simp only [Act.put, List.setIfInBounds_toArray, List.set_cons_succ, List.set_cons_zero]
  refine gd_len (c10) _ 46 _ rfl Try.underlying46 _ (rn') _ (by cases c10 <;> rfl) (fun h => by cases c10 <;> first | rfl | cases h) ?_
  simp only [Act.put, List.setIfInBounds_toArray, List.set_cons_succ, List.set_cons_zero]
  refine gd_bin (c10) .eql 3 _ _ _ rfl (.int .i64 (rn : Int)) (.int .i64 (rn' : Int)) (.bool ((rn : Int) == (rn' : Int))) (by cases c10 <;> rfl) (fun h => by cases c10 <;> first | rfl | cases h) (fun h => by cases c10 <;> first | rfl | cases h) (eqg_int _ _ _ _ _ _ _ _) (beql3 _ _ _) ?_
  simp only [Act.put, List.setIfInBounds_toArray, List.set_cons_succ, List.set_cons_zero]
  refine gd_and _ _ rfl rfl c10 ((rn : Int) == (rn' : Int)) rfl (fun h => by cases c10 <;> first | rfl | cases h) ?_
  simp only [Act.put, List.setIfInBounds_toArray, List.set_cons_succ, List.set_cons_zero]
  obtain ⟨c11, hc11⟩ : ∃ c : Bool, c = (c10 && (rn : Int) == (rn' : Int)) := ⟨_, rfl⟩
  rw [← hc11]
  have Hc11 := Lib.hid hc11
  clear hc11
  refine gd_move _ rfl rfl (.bool c11) rfl ?_
  simp only [Act.put, List.setIfInBounds_toArray, List.set_cons_succ, List.set_cons_zero]
  refine gd_field (c11) 51 _ 9 rfl ⟨q1, 0, none⟩ ⟨q1, 9, none⟩ (by cases c11 <;> rfl) (fun h => by cases c11 <;> first | rfl | cases h) (fld51_9 _ _) ?_
  simp only [Act.put, List.setIfInBounds_toArray, List.set_cons_succ, List.set_cons_zero]
  refine gd_load (c11) 47 _ rfl ⟨q1, 9, none⟩ (.slice sA sn sc) (by cases c11 <;> rfl) (fun h => by cases c11 <;> first | rfl | cases h) (ld47 (show _ = some (.slice sA sn sc : Value) from hq1 9)) ?_
  simp only [Act.put, List.setIfInBounds_toArray, List.set_cons_succ, List.set_cons_zero]
  refine gd_len (c11) _ 47 _ rfl Try.underlying47 _ (sn) _ (by cases c11 <;> rfl) (fun h => by cases c11 <;> first | rfl | cases h) ?_
  simp only [Act.put, List.setIfInBounds_toArray, List.set_cons_succ, List.set_cons_zero]
  refine gd_field (c11) 51 _ 9 rfl ⟨q3, 0, none⟩ ⟨q3, 9, none⟩ (by cases c11 <;> rfl) (fun h => by cases c11 <;> first | rfl | cases h) (fld51_9 _ _) ?_
  simp only [Act.put, List.setIfInBounds_toArray, List.set_cons_succ, List.set_cons_zero]
  refine gd_load (c11) 47 _ rfl ⟨q3, 9, none⟩ (.slice sA' sn' sc') (by cases c11 <;> rfl) (fun h => by cases c11 <;> first | rfl | cases h) (ld47 (show _ = some (.slice sA' sn' sc' : Value) from hq3 9)) ?_
  simp only [Act.put, List.setIfInBounds_toArray, List.set_cons_succ, List.set_cons_zero]
  refine gd_len (c11) _ 47 _ rfl Try.underlying47 _ (sn') _ (by cases c11 <;> rfl) (fun h => by cases c11 <;> first | rfl | cases h) ?_
  simp only [Act.put, List.setIfInBounds_toArray, List.set_cons_succ, List.set_cons_zero]
  refine gd_bin (c11) .eql 3 _ _ _ rfl (.int .i64 (sn : Int)) (.int .i64 (sn' : Int)) (.bool ((sn : Int) == (sn' : Int))) (by cases c11 <;> rfl) (fun h => by cases c11 <;> first | rfl | cases h) (fun h => by cases c11 <;> first | rfl | cases h) (eqg_int _ _ _ _ _ _ _ _) (beql3 _ _ _) ?_
  simp only [Act.put, List.setIfInBounds_toArray, List.set_cons_succ, List.set_cons_zero]
  refine gd_and _ _ rfl rfl c11 ((sn : Int) == (sn' : Int)) rfl (fun h => by cases c11 <;> first | rfl | cases h) ?_
  simp only [Act.put, List.setIfInBounds_toArray, List.set_cons_succ, List.set_cons_zero]
  obtain ⟨c12, hc12⟩ : ∃ c : Bool, c = (c11 && (sn : Int) == (sn' : Int)) := ⟨_, rfl⟩
  rw [← hc12]
  have Hc12 := Lib.hid hc12
  clear hc12
  refine gd_move _ rfl rfl (.bool c12) rfl ?_
  simp only [Act.put, List.setIfInBounds_toArray, List.set_cons_succ, List.set_cons_zero]
  refine gd_field (c12) 51 _ 10 rfl ⟨q1, 0, none⟩ ⟨q1, 10, none⟩ (by cases c12 <;> rfl) (fun h => by cases c12 <;> first | rfl | cases h) (fld51_10 _ _) ?_
  simp only [Act.put, List.setIfInBounds_toArray, List.set_cons_succ, List.set_cons_zero]
  refine gd_load (c12) 44 _ rfl ⟨q1, 10, none⟩ (.slice qA qn qc) (by cases c12 <;> rfl) (fun h => by cases c12 <;> first | rfl | cases h) (ld44 (show _ = some (.slice qA qn qc : Value) from hq1 10)) ?_
  simp only [Act.put, List.setIfInBounds_toArray, List.set_cons_succ, List.set_cons_zero]
  refine gd_len (c12) _ 44 _ rfl Try.underlying44 _ (qn) _ (by cases c12 <;> rfl) (fun h => by cases c12 <;> first | rfl | cases h) ?_
  simp only [Act.put, List.setIfInBounds_toArray, List.set_cons_succ, List.set_cons_zero]
  refine gd_field (c12) 51 _ 10 rfl ⟨q3, 0, none⟩ ⟨q3, 10, none⟩ (by cases c12 <;> rfl) (fun h => by cases c12 <;> first | rfl | cases h) (fld51_10 _ _) ?_
  simp only [Act.put, List.setIfInBounds_toArray, List.set_cons_succ, List.set_cons_zero]
  refine gd_load (c12) 44 _ rfl ⟨q3, 10, none⟩ (.slice qA' qn' qc') (by cases c12 <;> rfl) (fun h => by cases c12 <;> first | rfl | cases h) (ld44 (show _ = some (.slice qA' qn' qc' : Value) from hq3 10)) ?_
  simp only [Act.put, List.setIfInBounds_toArray, List.set_cons_succ, List.set_cons_zero]
  refine gd_len (c12) _ 44 _ rfl Try.underlying44 _ (qn') _ (by cases c12 <;> rfl) (fun h => by cases c12 <;> first | rfl | cases h) ?_
  simp only [Act.put, List.setIfInBounds_toArray, List.set_cons_succ, List.set_cons_zero]
  refine gd_bin (c12) .eql 3 _ _ _ rfl (.int .i64 (qn : Int)) (.int .i64 (qn' : Int)) (.bool ((qn : Int) == (qn' : Int))) (by cases c12 <;> rfl) (fun h => by cases c12 <;> first | rfl | cases h) (fun h => by cases c12 <;> first | rfl | cases h) (eqg_int _ _ _ _ _ _ _ _) (beql3 _ _ _) ?_
  simp only [Act.put, List.setIfInBounds_toArray, List.set_cons_succ, List.set_cons_zero]
  refine gd_and _ _ rfl rfl c12 ((qn : Int) == (qn' : Int)) rfl (fun h => by cases c12 <;> first | rfl | cases h) ?_
  simp only [Act.put, List.setIfInBounds_toArray, List.set_cons_succ, List.set_cons_zero]
  obtain ⟨c13, hc13⟩ : ∃ c : Bool, c = (c12 && (qn : Int) == (qn' : Int)) := ⟨_, rfl⟩
  rw [← hc13]
  have Hc13 := Lib.hid hc13
  clear hc13
  refine gd_move _ rfl rfl (.bool c13) rfl ?_
  simp only [Act.put, List.setIfInBounds_toArray, List.set_cons_succ, List.set_cons_zero]
  refine gd_field (c13) 51 _ 14 rfl ⟨q1, 0, none⟩ ⟨q1, 14, none⟩ (by cases c13 <;> rfl) (fun h => by cases c13 <;> first | rfl | cases h) (fld51_14 _ _) ?_
  simp only [Act.put, List.setIfInBounds_toArray, List.set_cons_succ, List.set_cons_zero]
  refine gd_load (c13) 48 _ rfl ⟨q1, 14, none⟩ (.slice aA an ac) (by cases c13 <;> rfl) (fun h => by cases c13 <;> first | rfl | cases h) (ld48 (show _ = some (.slice aA an ac : Value) from hq1 14)) ?_
  simp only [Act.put, List.setIfInBounds_toArray, List.set_cons_succ, List.set_cons_zero]
  refine gd_len (c13) _ 48 _ rfl Try.underlying48 _ (an) _ (by cases c13 <;> rfl) (fun h => by cases c13 <;> first | rfl | cases h) ?_
  simp only [Act.put, List.setIfInBounds_toArray, List.set_cons_succ, List.set_cons_zero]
  refine gd_field (c13) 51 _ 14 rfl ⟨q3, 0, none⟩ ⟨q3, 14, none⟩ (by cases c13 <;> rfl) (fun h => by cases c13 <;> first | rfl | cases h) (fld51_14 _ _) ?_
  simp only [Act.put, List.setIfInBounds_toArray, List.set_cons_succ, List.set_cons_zero]
  refine gd_load (c13) 48 _ rfl ⟨q3, 14, none⟩ (.slice aA' an' ac') (by cases c13 <;> rfl) (fun h => by cases c13 <;> first | rfl | cases h) (ld48 (show _ = some (.slice aA' an' ac' : Value) from hq3 14)) ?_
  simp only [Act.put, List.setIfInBounds_toArray, List.set_cons_succ, List.set_cons_zero]
  refine gd_len (c13) _ 48 _ rfl Try.underlying48 _ (an') _ (by cases c13 <;> rfl) (fun h => by cases c13 <;> first | rfl | cases h) ?_
  simp only [Act.put, List.setIfInBounds_toArray, List.set_cons_succ, List.set_cons_zero]
  refine gd_bin (c13) .eql 3 _ _ _ rfl (.int .i64 (an : Int)) (.int .i64 (an' : Int)) (.bool ((an : Int) == (an' : Int))) (by cases c13 <;> rfl) (fun h => by cases c13 <;> first | rfl | cases h) (fun h => by cases c13 <;> first | rfl | cases h) (eqg_int _ _ _ _ _ _ _ _) (beql3 _ _ _) ?_
  simp only [Act.put, List.setIfInBounds_toArray, List.set_cons_succ, List.set_cons_zero]
  refine gd_and _ _ rfl rfl c13 ((an : Int) == (an' : Int)) rfl (fun h => by cases c13 <;> first | rfl | cases h) ?_
  simp only [Act.put, List.setIfInBounds_toArray, List.set_cons_succ, List.set_cons_zero]
  obtain ⟨c14, hc14⟩ : ∃ c : Bool, c = (c13 && (an : Int) == (an' : Int)) := ⟨_, rfl⟩
  rw [← hc14]
  have Hc14 := Lib.hid hc14
  clear hc14
  refine gd_move _ rfl rfl (.bool c14) rfl ?_
  simp only [Act.put, List.setIfInBounds_toArray, List.set_cons_succ, List.set_cons_zero]
  refine gd_field (c14) 51 _ 15 rfl ⟨q1, 0, none⟩ ⟨q1, 15, none⟩ (by cases c14 <;> rfl) (fun h => by cases c14 <;> first | rfl | cases h) (fld51_15 _ _) ?_
  simp only [Act.put, List.setIfInBounds_toArray, List.set_cons_succ, List.set_cons_zero]
  refine gd_load (c14) 49 _ rfl ⟨q1, 15, none⟩ (.slice wA wn wc) (by cases c14 <;> rfl) (fun h => by cases c14 <;> first | rfl | cases h) (ld49 (show _ = some (.slice wA wn wc : Value) from hq1 15)) ?_
  simp only [Act.put, List.setIfInBounds_toArray, List.set_cons_succ, List.set_cons_zero]
  refine gd_len (c14) _ 49 _ rfl Try.underlying49 _ (wn) _ (by cases c14 <;> rfl) (fun h => by cases c14 <;> first | rfl | cases h) ?_
  simp only [Act.put, List.setIfInBounds_toArray, List.set_cons_succ, List.set_cons_zero]
  refine gd_field (c14) 51 _ 15 rfl ⟨q3, 0, none⟩ ⟨q3, 15, none⟩ (by cases c14 <;> rfl) (fun h => by cases c14 <;> first | rfl | cases h) (fld51_15 _ _) ?_
  simp only [Act.put, List.setIfInBounds_toArray, List.set_cons_succ, List.set_cons_zero]
  refine gd_load (c14) 49 _ rfl ⟨q3, 15, none⟩ (.slice wA' wn' wc') (by cases c14 <;> rfl) (fun h => by cases c14 <;> first | rfl | cases h) (ld49 (show _ = some (.slice wA' wn' wc' : Value) from hq3 15)) ?_
  simp only [Act.put, List.setIfInBounds_toArray, List.set_cons_succ, List.set_cons_zero]
  refine gd_len (c14) _ 49 _ rfl Try.underlying49 _ (wn') _ (by cases c14 <;> rfl) (fun h => by cases c14 <;> first | rfl | cases h) ?_
  simp only [Act.put, List.setIfInBounds_toArray, List.set_cons_succ, List.set_cons_zero]
  refine gd_bin (c14) .eql 3 _ _ _ rfl (.int .i64 (wn : Int)) (.int .i64 (wn' : Int)) (.bool ((wn : Int) == (wn' : Int))) (by cases c14 <;> rfl) (fun h => by cases c14 <;> first | rfl | cases h) (fun h => by cases c14 <;> first | rfl | cases h) (eqg_int _ _ _ _ _ _ _ _) (beql3 _ _ _) ?_
  simp only [Act.put, List.setIfInBounds_toArray, List.set_cons_succ, List.set_cons_zero]
  refine gd_and _ _ rfl rfl c14 ((wn : Int) == (wn' : Int)) rfl (fun h => by cases c14 <;> first | rfl | cases h) ?_
  simp only [Act.put, List.setIfInBounds_toArray, List.set_cons_succ, List.set_cons_zero]
  obtain ⟨c15, hc15⟩ : ∃ c : Bool, c = (c14 && (wn : Int) == (wn' : Int)) := ⟨_, rfl⟩
  rw [← hc15]
  have Hc15 := Lib.hid hc15
  clear hc15
  have HX := Lib.hid (show c15 = ((sender == sender') && (media == media') && (ntp == ntp') && (rtp == rtp') && (pkts == pkts') && (octs == octs') && (name.toList == name'.toList) && (base == base') && (ref == ref') && (count == count') && ((rn : Int) == (rn' : Int)) && ((sn : Int) == (sn' : Int)) && ((qn : Int) == (qn' : Int)) && ((an : Int) == (an' : Int)) && ((wn : Int) == (wn' : Int))) from by rw [Hc15.out, Hc14.out, Hc13.out, Hc12.out, Hc11.out, Hc10.out, Hc9.out, Hc8.out, Hc7.out, Hc6.out, Hc5.out, Hc4.out, Hc3.out, Hc2.out, Hc1.out])
  go_wp2
  go_returns
  exact Ret.mk (.refl I) HS3.out.drop.drop ⟨rfl, congrArg Value.bool HX.out, rfl⟩
end Go.Proofs.Ytddopbbmgpnjjaa
