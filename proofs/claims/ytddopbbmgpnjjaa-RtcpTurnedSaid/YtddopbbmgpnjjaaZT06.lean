/- part. -/
import Derived.Test.YtddopbbmgpnjjaaZT02
namespace Go.Proofs.Ytddopbbmgpnjjaa
set_option linter.unusedSimpArgs false
open Go.RowKit
theorem st56B : (Try.prog.underlying 56).any (fun d => match d with | .struct _ => true | _ => false) = true := by kernel_rfl
theorem st56D : ∃ fs, Try.prog.underlying 56 = some (.struct fs) := by
 have h := st56B
 cases e : Try.prog.underlying 56 with
 | none => rw [e] at h; cases h
 | some d => rw [e] at h; cases d <;> first | exact ⟨_, rfl⟩ | cases h
theorem Zn : (Try.prog.info? 56).map (·.size) = some 16 := by kernel_rfl
set_option maxRecDepth 100000 in
set_option maxHeartbeats 8000000 in
theorem only33 (I : Zh) (M : List Zt) (w : World) (kind ZA ZC ZN ZP ZI ZJ : Int) (rA : Option Addr) (rn rc : Nat) (name : ByteArray) (sA : Option Addr) (sn sc : Nat) (qA : Option Addr) (qn qc : Nat) (base ref count : Int) (aA : Option Addr) (an ac : Nat) (wA : Option Addr) (wn wc : Nat) (ZX : St I M w) :
  Calls Try.prog 33 #[.agg #[.int .i64 kind, .int .u32 ZA, .int .u32 ZC, .int .u64 ZN, .int .u32 ZP, .int .u32 ZI, .int .u32 ZJ, .slice rA rn rc, .string name, .slice sA sn sc, .slice qA qn qc, .int .u16 base, .int .u32 ref, .int .u8 count, .slice aA an ac, .slice wA wn wc]] w (YR I (fun u J M' => I = J /\ u = .agg (Xo kind ZA ZC ZN ZP ZI ZJ rA rn rc name sA sn sc qA qn qc base ref count aA an ac wA wn wc) /\ M' = M)) := by
 have Zf := ((ZX.alloc 56 #[.int .i64 kind, .int .u32 ZA, .int .u32 ZC, .int .u64 ZN, .int .u32 ZP, .int .u32 ZI, .int .u32 ZJ, .slice rA rn rc, .string name, .slice sA sn sc, .slice qA qn qc, .int .u16 base, .int .u32 ref, .int .u8 count, .slice aA an ac, .slice wA wn wc]).alloc 56 (WU Wv Ww)).alloc 56 #[.int .i64 kind, .int .u32 0, .int .u32 0, .int .u64 0, .int .u32 0, .int .u32 0, .int .u32 0, .slice none 0 0, .string ⟨#[]⟩, .slice none 0 0, .slice none 0 0, .int .u16 0, .int .u32 0, .int .u8 0, .slice none 0 0, .slice none 0 0]
 simp only [World.size_alloc] at Zf
 obtain ⟨fs, hd⟩ := st56D
 clear ZX
 go_enter Try.func33, Try.ntmps33
 go_upto_region 2 with fail
 obtain ⟨q1, hq1⟩ : ∃ q, q = w.heap.size := ⟨_, rfl⟩
 obtain ⟨q2, hq2⟩ : ∃ q, q = q1 + 1 := ⟨_, rfl⟩
 obtain ⟨q3, hq3⟩ : ∃ q, q = q1 + 1 + 1 := ⟨_, rfl⟩
 rw [<- hq1, <- hq3, <- hq2] at Zf
 rw [<- hq1, <- hq3, <- hq2]
 generalize World.alloc (World.alloc (World.alloc w _) _) _ = W at Zf ⊢
 have hne : q1 ≠ q3 := by omega
 have hne' : q3 ≠ q1 := by omega
 clear hq1 hq2 hq3
 obtain ⟨Zc, hf1, hl1⟩ := ZO.all (Zf.at 2 rfl)
 obtain ⟨hc3, hf3, hl3⟩ := ZO.all (Zf.at 0 rfl)
 have H3 := VL Zf
 clear Zf
 rcases onlyC_ways kind with rfl | rfl | rfl | rfl | rfl | rfl | rfl | rfl | ⟨k1, k2, k3, k4, k5, k6, k7, k8⟩
 ·skip
  go_upto_region 8 with fail
  go_region
  have Zv := ((((((H3.out.set 1 (.int .u32 ZA)).set 3 (.int .u64 ZN)).set 4 (.int .u32 ZP)).set 5 (.int .u32 ZI)).set 6 (.int .u32 ZJ)).set 7 (.slice rA rn rc)).drew
  generalize World.drew _ = W4 at Zv ⊢
  have Zo : St I (bk q3 56 #[.int .i64 1, .int .u32 ZA, .int .u32 0, .int .u64 ZN, .int .u32 ZP, .int .u32 ZI, .int .u32 ZJ, .slice rA rn rc, .string ⟨#[]⟩, .slice none 0 0, .slice none 0 0, .int .u16 0, .int .u32 0, .int .u8 0, .slice none 0 0, .slice none 0 0] :: bk q2 56 (WU Wv Ww) :: bk q1 56 #[.int .i64 1, .int .u32 ZA, .int .u32 ZC, .int .u64 ZN, .int .u32 ZP, .int .u32 ZI, .int .u32 ZJ, .slice rA rn rc, .string name, .slice sA sn sc, .slice qA qn qc, .int .u16 base, .int .u32 ref, .int .u8 count, .slice aA an ac, .slice wA wn wc] :: M) W4 := Zv
  clear Zv H3 Zc hf1 hl1 hc3 hf3 hl3
  have hb3 : ZO W4 q3 56 #[.int .i64 1, .int .u32 ZA, .int .u32 0, .int .u64 ZN, .int .u32 ZP, .int .u32 ZI, .int .u32 ZJ, .slice rA rn rc, .string ⟨#[]⟩, .slice none 0 0, .slice none 0 0, .int .u16 0, .int .u32 0, .int .u8 0, .slice none 0 0, .slice none 0 0] := Zo.at 0 rfl
  have hb2 : ZO W4 q2 56 (WU Wv Ww) := Zo.at 1 rfl
  have hone : (#[.int .i64 1, .int .u32 ZA, .int .u32 0, .int .u64 ZN, .int .u32 ZP, .int .u32 ZI, .int .u32 ZJ, .slice rA rn rc, .string ⟨#[]⟩, .slice none 0 0, .slice none 0 0, .int .u16 0, .int .u32 0, .int .u8 0, .slice none 0 0, .slice none 0 0] : Array Value).all (·.oneCell') = true := by simp [Value.oneCell']
  have HS6 := VL (Zo.YS #[.int .i64 1, .int .u32 ZA, .int .u32 0, .int .u64 ZN, .int .u32 ZP, .int .u32 ZI, .int .u32 ZJ, .slice rA rn rc, .string ⟨#[]⟩, .slice none 0 0, .slice none 0 0, .int .u16 0, .int .u32 0, .int .u8 0, .slice none 0 0, .slice none 0 0])
  clear Zo
  go_wp2_with (first | refine wpList_load_row rfl 56 (.tmp 3) rfl q3 rfl 56 _ (0, 0) _ hb3 hd rfl Zn ?_ | refine wpList_store_row rfl 56 (.tmp 2) (.tmp 77) rfl q2 #[.int .i64 1, .int .u32 ZA, .int .u32 0, .int .u64 ZN, .int .u32 ZP, .int .u32 ZI, .int .u32 ZJ, .slice rA rn rc, .string ⟨#[]⟩, .slice none 0 0, .slice none 0 0, .int .u16 0, .int .u32 0, .int .u8 0, .slice none 0 0, .slice none 0 0] rfl rfl 56 _ hb2 Zn rfl hone ?_)
  refine bodyPost_ret (results_cell_row (p := 2) Try.results33 _ _ q2 56 _ (0, 0) _ rfl (HS6.out.at 1 rfl) hd rfl Zn) rfl ?_
  exact YR.mk (.refl I) HS6.out.drop.drop.drop ⟨rfl, by simp [Xo], rfl⟩
 ·skip
  go_upto_region 21 with fail
  have Zv := ((H3.out.set 1 (.int .u32 ZA)).set 7 (.slice rA rn rc))
  generalize World.setCell (World.setCell W _ _) _ _ = W4 at Zv ⊢
  have Zo : St I (bk q3 56 #[.int .i64 2, .int .u32 ZA, .int .u32 0, .int .u64 0, .int .u32 0, .int .u32 0, .int .u32 0, .slice rA rn rc, .string ⟨#[]⟩, .slice none 0 0, .slice none 0 0, .int .u16 0, .int .u32 0, .int .u8 0, .slice none 0 0, .slice none 0 0] :: bk q2 56 (WU Wv Ww) :: bk q1 56 #[.int .i64 2, .int .u32 ZA, .int .u32 ZC, .int .u64 ZN, .int .u32 ZP, .int .u32 ZI, .int .u32 ZJ, .slice rA rn rc, .string name, .slice sA sn sc, .slice qA qn qc, .int .u16 base, .int .u32 ref, .int .u8 count, .slice aA an ac, .slice wA wn wc] :: M) W4 := Zv
  clear Zv H3 Zc hf1 hl1 hc3 hf3 hl3
  have hb3 : ZO W4 q3 56 #[.int .i64 2, .int .u32 ZA, .int .u32 0, .int .u64 0, .int .u32 0, .int .u32 0, .int .u32 0, .slice rA rn rc, .string ⟨#[]⟩, .slice none 0 0, .slice none 0 0, .int .u16 0, .int .u32 0, .int .u8 0, .slice none 0 0, .slice none 0 0] := Zo.at 0 rfl
  have hb2 : ZO W4 q2 56 (WU Wv Ww) := Zo.at 1 rfl
  have hone : (#[.int .i64 2, .int .u32 ZA, .int .u32 0, .int .u64 0, .int .u32 0, .int .u32 0, .int .u32 0, .slice rA rn rc, .string ⟨#[]⟩, .slice none 0 0, .slice none 0 0, .int .u16 0, .int .u32 0, .int .u8 0, .slice none 0 0, .slice none 0 0] : Array Value).all (·.oneCell') = true := by simp [Value.oneCell']
  have HS6 := VL (Zo.YS #[.int .i64 2, .int .u32 ZA, .int .u32 0, .int .u64 0, .int .u32 0, .int .u32 0, .int .u32 0, .slice rA rn rc, .string ⟨#[]⟩, .slice none 0 0, .slice none 0 0, .int .u16 0, .int .u32 0, .int .u8 0, .slice none 0 0, .slice none 0 0])
  clear Zo
  go_wp2_with (first | refine wpList_load_row rfl 56 (.tmp 3) rfl q3 rfl 56 _ (0, 0) _ hb3 hd rfl Zn ?_ | refine wpList_store_row rfl 56 (.tmp 2) (.tmp 77) rfl q2 #[.int .i64 2, .int .u32 ZA, .int .u32 0, .int .u64 0, .int .u32 0, .int .u32 0, .int .u32 0, .slice rA rn rc, .string ⟨#[]⟩, .slice none 0 0, .slice none 0 0, .int .u16 0, .int .u32 0, .int .u8 0, .slice none 0 0, .slice none 0 0] rfl rfl 56 _ hb2 Zn rfl hone ?_)
  refine bodyPost_ret (results_cell_row (p := 2) Try.results33 _ _ q2 56 _ (0, 0) _ rfl (HS6.out.at 1 rfl) hd rfl Zn) rfl ?_
  exact YR.mk (.refl I) HS6.out.drop.drop.drop ⟨rfl, by simp [Xo], rfl⟩
 ·skip
  go_upto_region 21 with fail
  have Zv := ((H3.out.set 1 (.int .u32 ZA)).set 8 (.string name))
  generalize World.setCell (World.setCell W _ _) _ _ = W4 at Zv ⊢
  have Zo : St I (bk q3 56 #[.int .i64 3, .int .u32 ZA, .int .u32 0, .int .u64 0, .int .u32 0, .int .u32 0, .int .u32 0, .slice none 0 0, .string name, .slice none 0 0, .slice none 0 0, .int .u16 0, .int .u32 0, .int .u8 0, .slice none 0 0, .slice none 0 0] :: bk q2 56 (WU Wv Ww) :: bk q1 56 #[.int .i64 3, .int .u32 ZA, .int .u32 ZC, .int .u64 ZN, .int .u32 ZP, .int .u32 ZI, .int .u32 ZJ, .slice rA rn rc, .string name, .slice sA sn sc, .slice qA qn qc, .int .u16 base, .int .u32 ref, .int .u8 count, .slice aA an ac, .slice wA wn wc] :: M) W4 := Zv
  clear Zv H3 Zc hf1 hl1 hc3 hf3 hl3
  have hb3 : ZO W4 q3 56 #[.int .i64 3, .int .u32 ZA, .int .u32 0, .int .u64 0, .int .u32 0, .int .u32 0, .int .u32 0, .slice none 0 0, .string name, .slice none 0 0, .slice none 0 0, .int .u16 0, .int .u32 0, .int .u8 0, .slice none 0 0, .slice none 0 0] := Zo.at 0 rfl
  have hb2 : ZO W4 q2 56 (WU Wv Ww) := Zo.at 1 rfl
  have hone : (#[.int .i64 3, .int .u32 ZA, .int .u32 0, .int .u64 0, .int .u32 0, .int .u32 0, .int .u32 0, .slice none 0 0, .string name, .slice none 0 0, .slice none 0 0, .int .u16 0, .int .u32 0, .int .u8 0, .slice none 0 0, .slice none 0 0] : Array Value).all (·.oneCell') = true := by simp [Value.oneCell']
  have HS6 := VL (Zo.YS #[.int .i64 3, .int .u32 ZA, .int .u32 0, .int .u64 0, .int .u32 0, .int .u32 0, .int .u32 0, .slice none 0 0, .string name, .slice none 0 0, .slice none 0 0, .int .u16 0, .int .u32 0, .int .u8 0, .slice none 0 0, .slice none 0 0])
  clear Zo
  go_wp2_with (first | refine wpList_load_row rfl 56 (.tmp 3) rfl q3 rfl 56 _ (0, 0) _ hb3 hd rfl Zn ?_ | refine wpList_store_row rfl 56 (.tmp 2) (.tmp 77) rfl q2 #[.int .i64 3, .int .u32 ZA, .int .u32 0, .int .u64 0, .int .u32 0, .int .u32 0, .int .u32 0, .slice none 0 0, .string name, .slice none 0 0, .slice none 0 0, .int .u16 0, .int .u32 0, .int .u8 0, .slice none 0 0, .slice none 0 0] rfl rfl 56 _ hb2 Zn rfl hone ?_)
  refine bodyPost_ret (results_cell_row (p := 2) Try.results33 _ _ q2 56 _ (0, 0) _ rfl (HS6.out.at 1 rfl) hd rfl Zn) rfl ?_
  exact YR.mk (.refl I) HS6.out.drop.drop.drop ⟨rfl, by simp [Xo], rfl⟩
 ·skip
  go_upto_region 21 with fail
  have Zv := (H3.out.set 9 (.slice sA sn sc))
  generalize World.setCell W _ _ = W4 at Zv ⊢
  have Zo : St I (bk q3 56 #[.int .i64 4, .int .u32 0, .int .u32 0, .int .u64 0, .int .u32 0, .int .u32 0, .int .u32 0, .slice none 0 0, .string ⟨#[]⟩, .slice sA sn sc, .slice none 0 0, .int .u16 0, .int .u32 0, .int .u8 0, .slice none 0 0, .slice none 0 0] :: bk q2 56 (WU Wv Ww) :: bk q1 56 #[.int .i64 4, .int .u32 ZA, .int .u32 ZC, .int .u64 ZN, .int .u32 ZP, .int .u32 ZI, .int .u32 ZJ, .slice rA rn rc, .string name, .slice sA sn sc, .slice qA qn qc, .int .u16 base, .int .u32 ref, .int .u8 count, .slice aA an ac, .slice wA wn wc] :: M) W4 := Zv
  clear Zv H3 Zc hf1 hl1 hc3 hf3 hl3
  have hb3 : ZO W4 q3 56 #[.int .i64 4, .int .u32 0, .int .u32 0, .int .u64 0, .int .u32 0, .int .u32 0, .int .u32 0, .slice none 0 0, .string ⟨#[]⟩, .slice sA sn sc, .slice none 0 0, .int .u16 0, .int .u32 0, .int .u8 0, .slice none 0 0, .slice none 0 0] := Zo.at 0 rfl
  have hb2 : ZO W4 q2 56 (WU Wv Ww) := Zo.at 1 rfl
  have hone : (#[.int .i64 4, .int .u32 0, .int .u32 0, .int .u64 0, .int .u32 0, .int .u32 0, .int .u32 0, .slice none 0 0, .string ⟨#[]⟩, .slice sA sn sc, .slice none 0 0, .int .u16 0, .int .u32 0, .int .u8 0, .slice none 0 0, .slice none 0 0] : Array Value).all (·.oneCell') = true := by simp [Value.oneCell']
  have HS6 := VL (Zo.YS #[.int .i64 4, .int .u32 0, .int .u32 0, .int .u64 0, .int .u32 0, .int .u32 0, .int .u32 0, .slice none 0 0, .string ⟨#[]⟩, .slice sA sn sc, .slice none 0 0, .int .u16 0, .int .u32 0, .int .u8 0, .slice none 0 0, .slice none 0 0])
  clear Zo
  go_wp2_with (first | refine wpList_load_row rfl 56 (.tmp 3) rfl q3 rfl 56 _ (0, 0) _ hb3 hd rfl Zn ?_ | refine wpList_store_row rfl 56 (.tmp 2) (.tmp 77) rfl q2 #[.int .i64 4, .int .u32 0, .int .u32 0, .int .u64 0, .int .u32 0, .int .u32 0, .int .u32 0, .slice none 0 0, .string ⟨#[]⟩, .slice sA sn sc, .slice none 0 0, .int .u16 0, .int .u32 0, .int .u8 0, .slice none 0 0, .slice none 0 0] rfl rfl 56 _ hb2 Zn rfl hone ?_)
  refine bodyPost_ret (results_cell_row (p := 2) Try.results33 _ _ q2 56 _ (0, 0) _ rfl (HS6.out.at 1 rfl) hd rfl Zn) rfl ?_
  exact YR.mk (.refl I) HS6.out.drop.drop.drop ⟨rfl, by simp [Xo], rfl⟩
 ·skip
  go_upto_region 21 with fail
  have Zv := (((H3.out.set 1 (.int .u32 ZA)).set 2 (.int .u32 ZC)).set 10 (.slice qA qn qc))
  generalize World.setCell (World.setCell (World.setCell W _ _) _ _) _ _ = W4 at Zv ⊢
  have Zo : St I (bk q3 56 #[.int .i64 5, .int .u32 ZA, .int .u32 ZC, .int .u64 0, .int .u32 0, .int .u32 0, .int .u32 0, .slice none 0 0, .string ⟨#[]⟩, .slice none 0 0, .slice qA qn qc, .int .u16 0, .int .u32 0, .int .u8 0, .slice none 0 0, .slice none 0 0] :: bk q2 56 (WU Wv Ww) :: bk q1 56 #[.int .i64 5, .int .u32 ZA, .int .u32 ZC, .int .u64 ZN, .int .u32 ZP, .int .u32 ZI, .int .u32 ZJ, .slice rA rn rc, .string name, .slice sA sn sc, .slice qA qn qc, .int .u16 base, .int .u32 ref, .int .u8 count, .slice aA an ac, .slice wA wn wc] :: M) W4 := Zv
  clear Zv H3 Zc hf1 hl1 hc3 hf3 hl3
  have hb3 : ZO W4 q3 56 #[.int .i64 5, .int .u32 ZA, .int .u32 ZC, .int .u64 0, .int .u32 0, .int .u32 0, .int .u32 0, .slice none 0 0, .string ⟨#[]⟩, .slice none 0 0, .slice qA qn qc, .int .u16 0, .int .u32 0, .int .u8 0, .slice none 0 0, .slice none 0 0] := Zo.at 0 rfl
  have hb2 : ZO W4 q2 56 (WU Wv Ww) := Zo.at 1 rfl
  have hone : (#[.int .i64 5, .int .u32 ZA, .int .u32 ZC, .int .u64 0, .int .u32 0, .int .u32 0, .int .u32 0, .slice none 0 0, .string ⟨#[]⟩, .slice none 0 0, .slice qA qn qc, .int .u16 0, .int .u32 0, .int .u8 0, .slice none 0 0, .slice none 0 0] : Array Value).all (·.oneCell') = true := by simp [Value.oneCell']
  have HS6 := VL (Zo.YS #[.int .i64 5, .int .u32 ZA, .int .u32 ZC, .int .u64 0, .int .u32 0, .int .u32 0, .int .u32 0, .slice none 0 0, .string ⟨#[]⟩, .slice none 0 0, .slice qA qn qc, .int .u16 0, .int .u32 0, .int .u8 0, .slice none 0 0, .slice none 0 0])
  clear Zo
  go_wp2_with (first | refine wpList_load_row rfl 56 (.tmp 3) rfl q3 rfl 56 _ (0, 0) _ hb3 hd rfl Zn ?_ | refine wpList_store_row rfl 56 (.tmp 2) (.tmp 77) rfl q2 #[.int .i64 5, .int .u32 ZA, .int .u32 ZC, .int .u64 0, .int .u32 0, .int .u32 0, .int .u32 0, .slice none 0 0, .string ⟨#[]⟩, .slice none 0 0, .slice qA qn qc, .int .u16 0, .int .u32 0, .int .u8 0, .slice none 0 0, .slice none 0 0] rfl rfl 56 _ hb2 Zn rfl hone ?_)
  refine bodyPost_ret (results_cell_row (p := 2) Try.results33 _ _ q2 56 _ (0, 0) _ rfl (HS6.out.at 1 rfl) hd rfl Zn) rfl ?_
  exact YR.mk (.refl I) HS6.out.drop.drop.drop ⟨rfl, by simp [Xo], rfl⟩
 ·skip
  go_upto_region 18 with fail
  go_region
  have Zv := ((((((H3.out.set 1 (.int .u32 ZA)).set 2 (.int .u32 ZC)).set 11 (.int .u16 base)).set 12 (.int .u32 ref)).set 13 (.int .u8 count)).set 14 (.slice aA an ac)).drew
  generalize World.drew _ = W4 at Zv ⊢
  have Zo : St I (bk q3 56 #[.int .i64 6, .int .u32 ZA, .int .u32 ZC, .int .u64 0, .int .u32 0, .int .u32 0, .int .u32 0, .slice none 0 0, .string ⟨#[]⟩, .slice none 0 0, .slice none 0 0, .int .u16 base, .int .u32 ref, .int .u8 count, .slice aA an ac, .slice none 0 0] :: bk q2 56 (WU Wv Ww) :: bk q1 56 #[.int .i64 6, .int .u32 ZA, .int .u32 ZC, .int .u64 ZN, .int .u32 ZP, .int .u32 ZI, .int .u32 ZJ, .slice rA rn rc, .string name, .slice sA sn sc, .slice qA qn qc, .int .u16 base, .int .u32 ref, .int .u8 count, .slice aA an ac, .slice wA wn wc] :: M) W4 := Zv
  clear Zv H3 Zc hf1 hl1 hc3 hf3 hl3
  have hb3 : ZO W4 q3 56 #[.int .i64 6, .int .u32 ZA, .int .u32 ZC, .int .u64 0, .int .u32 0, .int .u32 0, .int .u32 0, .slice none 0 0, .string ⟨#[]⟩, .slice none 0 0, .slice none 0 0, .int .u16 base, .int .u32 ref, .int .u8 count, .slice aA an ac, .slice none 0 0] := Zo.at 0 rfl
  have hb2 : ZO W4 q2 56 (WU Wv Ww) := Zo.at 1 rfl
  have hone : (#[.int .i64 6, .int .u32 ZA, .int .u32 ZC, .int .u64 0, .int .u32 0, .int .u32 0, .int .u32 0, .slice none 0 0, .string ⟨#[]⟩, .slice none 0 0, .slice none 0 0, .int .u16 base, .int .u32 ref, .int .u8 count, .slice aA an ac, .slice none 0 0] : Array Value).all (·.oneCell') = true := by simp [Value.oneCell']
  have HS6 := VL (Zo.YS #[.int .i64 6, .int .u32 ZA, .int .u32 ZC, .int .u64 0, .int .u32 0, .int .u32 0, .int .u32 0, .slice none 0 0, .string ⟨#[]⟩, .slice none 0 0, .slice none 0 0, .int .u16 base, .int .u32 ref, .int .u8 count, .slice aA an ac, .slice none 0 0])
  clear Zo
  go_wp2_with (first | refine wpList_load_row rfl 56 (.tmp 3) rfl q3 rfl 56 _ (0, 0) _ hb3 hd rfl Zn ?_ | refine wpList_store_row rfl 56 (.tmp 2) (.tmp 77) rfl q2 #[.int .i64 6, .int .u32 ZA, .int .u32 ZC, .int .u64 0, .int .u32 0, .int .u32 0, .int .u32 0, .slice none 0 0, .string ⟨#[]⟩, .slice none 0 0, .slice none 0 0, .int .u16 base, .int .u32 ref, .int .u8 count, .slice aA an ac, .slice none 0 0] rfl rfl 56 _ hb2 Zn rfl hone ?_)
  refine bodyPost_ret (results_cell_row (p := 2) Try.results33 _ _ q2 56 _ (0, 0) _ rfl (HS6.out.at 1 rfl) hd rfl Zn) rfl ?_
  exact YR.mk (.refl I) HS6.out.drop.drop.drop ⟨rfl, by simp [Xo], rfl⟩
 ·skip
  go_upto_region 21 with fail
  have Zv := ((H3.out.set 1 (.int .u32 ZA)).set 2 (.int .u32 ZC))
  generalize World.setCell (World.setCell W _ _) _ _ = W4 at Zv ⊢
  have Zo : St I (bk q3 56 #[.int .i64 7, .int .u32 ZA, .int .u32 ZC, .int .u64 0, .int .u32 0, .int .u32 0, .int .u32 0, .slice none 0 0, .string ⟨#[]⟩, .slice none 0 0, .slice none 0 0, .int .u16 0, .int .u32 0, .int .u8 0, .slice none 0 0, .slice none 0 0] :: bk q2 56 (WU Wv Ww) :: bk q1 56 #[.int .i64 7, .int .u32 ZA, .int .u32 ZC, .int .u64 ZN, .int .u32 ZP, .int .u32 ZI, .int .u32 ZJ, .slice rA rn rc, .string name, .slice sA sn sc, .slice qA qn qc, .int .u16 base, .int .u32 ref, .int .u8 count, .slice aA an ac, .slice wA wn wc] :: M) W4 := Zv
  clear Zv H3 Zc hf1 hl1 hc3 hf3 hl3
  have hb3 : ZO W4 q3 56 #[.int .i64 7, .int .u32 ZA, .int .u32 ZC, .int .u64 0, .int .u32 0, .int .u32 0, .int .u32 0, .slice none 0 0, .string ⟨#[]⟩, .slice none 0 0, .slice none 0 0, .int .u16 0, .int .u32 0, .int .u8 0, .slice none 0 0, .slice none 0 0] := Zo.at 0 rfl
  have hb2 : ZO W4 q2 56 (WU Wv Ww) := Zo.at 1 rfl
  have hone : (#[.int .i64 7, .int .u32 ZA, .int .u32 ZC, .int .u64 0, .int .u32 0, .int .u32 0, .int .u32 0, .slice none 0 0, .string ⟨#[]⟩, .slice none 0 0, .slice none 0 0, .int .u16 0, .int .u32 0, .int .u8 0, .slice none 0 0, .slice none 0 0] : Array Value).all (·.oneCell') = true := by simp [Value.oneCell']
  have HS6 := VL (Zo.YS #[.int .i64 7, .int .u32 ZA, .int .u32 ZC, .int .u64 0, .int .u32 0, .int .u32 0, .int .u32 0, .slice none 0 0, .string ⟨#[]⟩, .slice none 0 0, .slice none 0 0, .int .u16 0, .int .u32 0, .int .u8 0, .slice none 0 0, .slice none 0 0])
  clear Zo
  go_wp2_with (first | refine wpList_load_row rfl 56 (.tmp 3) rfl q3 rfl 56 _ (0, 0) _ hb3 hd rfl Zn ?_ | refine wpList_store_row rfl 56 (.tmp 2) (.tmp 77) rfl q2 #[.int .i64 7, .int .u32 ZA, .int .u32 ZC, .int .u64 0, .int .u32 0, .int .u32 0, .int .u32 0, .slice none 0 0, .string ⟨#[]⟩, .slice none 0 0, .slice none 0 0, .int .u16 0, .int .u32 0, .int .u8 0, .slice none 0 0, .slice none 0 0] rfl rfl 56 _ hb2 Zn rfl hone ?_)
  refine bodyPost_ret (results_cell_row (p := 2) Try.results33 _ _ q2 56 _ (0, 0) _ rfl (HS6.out.at 1 rfl) hd rfl Zn) rfl ?_
  exact YR.mk (.refl I) HS6.out.drop.drop.drop ⟨rfl, by simp [Xo], rfl⟩
 ·skip
  go_upto_region 21 with fail
  have Zv := (((H3.out.set 1 (.int .u32 ZA)).set 2 (.int .u32 ZC)).set 15 (.slice wA wn wc))
  generalize World.setCell (World.setCell (World.setCell W _ _) _ _) _ _ = W4 at Zv ⊢
  have Zo : St I (bk q3 56 #[.int .i64 8, .int .u32 ZA, .int .u32 ZC, .int .u64 0, .int .u32 0, .int .u32 0, .int .u32 0, .slice none 0 0, .string ⟨#[]⟩, .slice none 0 0, .slice none 0 0, .int .u16 0, .int .u32 0, .int .u8 0, .slice none 0 0, .slice wA wn wc] :: bk q2 56 (WU Wv Ww) :: bk q1 56 #[.int .i64 8, .int .u32 ZA, .int .u32 ZC, .int .u64 ZN, .int .u32 ZP, .int .u32 ZI, .int .u32 ZJ, .slice rA rn rc, .string name, .slice sA sn sc, .slice qA qn qc, .int .u16 base, .int .u32 ref, .int .u8 count, .slice aA an ac, .slice wA wn wc] :: M) W4 := Zv
  clear Zv H3 Zc hf1 hl1 hc3 hf3 hl3
  have hb3 : ZO W4 q3 56 #[.int .i64 8, .int .u32 ZA, .int .u32 ZC, .int .u64 0, .int .u32 0, .int .u32 0, .int .u32 0, .slice none 0 0, .string ⟨#[]⟩, .slice none 0 0, .slice none 0 0, .int .u16 0, .int .u32 0, .int .u8 0, .slice none 0 0, .slice wA wn wc] := Zo.at 0 rfl
  have hb2 : ZO W4 q2 56 (WU Wv Ww) := Zo.at 1 rfl
  have hone : (#[.int .i64 8, .int .u32 ZA, .int .u32 ZC, .int .u64 0, .int .u32 0, .int .u32 0, .int .u32 0, .slice none 0 0, .string ⟨#[]⟩, .slice none 0 0, .slice none 0 0, .int .u16 0, .int .u32 0, .int .u8 0, .slice none 0 0, .slice wA wn wc] : Array Value).all (·.oneCell') = true := by simp [Value.oneCell']
  have HS6 := VL (Zo.YS #[.int .i64 8, .int .u32 ZA, .int .u32 ZC, .int .u64 0, .int .u32 0, .int .u32 0, .int .u32 0, .slice none 0 0, .string ⟨#[]⟩, .slice none 0 0, .slice none 0 0, .int .u16 0, .int .u32 0, .int .u8 0, .slice none 0 0, .slice wA wn wc])
  clear Zo
  go_wp2_with (first | refine wpList_load_row rfl 56 (.tmp 3) rfl q3 rfl 56 _ (0, 0) _ hb3 hd rfl Zn ?_ | refine wpList_store_row rfl 56 (.tmp 2) (.tmp 77) rfl q2 #[.int .i64 8, .int .u32 ZA, .int .u32 ZC, .int .u64 0, .int .u32 0, .int .u32 0, .int .u32 0, .slice none 0 0, .string ⟨#[]⟩, .slice none 0 0, .slice none 0 0, .int .u16 0, .int .u32 0, .int .u8 0, .slice none 0 0, .slice wA wn wc] rfl rfl 56 _ hb2 Zn rfl hone ?_)
  refine bodyPost_ret (results_cell_row (p := 2) Try.results33 _ _ q2 56 _ (0, 0) _ rfl (HS6.out.at 1 rfl) hd rfl Zn) rfl ?_
  exact YR.mk (.refl I) HS6.out.drop.drop.drop ⟨rfl, by simp [Xo], rfl⟩
 have g1 : (kind == 1) = false := beq_eq_false_iff_ne.2 k1
 have g2 : (kind == 2) = false := beq_eq_false_iff_ne.2 k2
 have g3 : (kind == 3) = false := beq_eq_false_iff_ne.2 k3
 have g4 : (kind == 4) = false := beq_eq_false_iff_ne.2 k4
 have g5 : (kind == 5) = false := beq_eq_false_iff_ne.2 k5
 have g6 : (kind == 6) = false := beq_eq_false_iff_ne.2 k6
 have g7 : (kind == 7) = false := beq_eq_false_iff_ne.2 k7
 have g8 : (kind == 8) = false := beq_eq_false_iff_ne.2 k8
 have g9 : (kind != 4) = true := by simpa using k4
 by_cases k9 : 5 <= kind
 ·have HK9 := VL k9
  go_upto_region 21 with fail
  have Zv := ((H3.out.set 1 (.int .u32 ZA)).set 2 (.int .u32 ZC))
  generalize World.setCell (World.setCell W _ _) _ _ = W4 at Zv ⊢
  have Zo : St I (bk q3 56 #[.int .i64 kind, .int .u32 ZA, .int .u32 ZC, .int .u64 0, .int .u32 0, .int .u32 0, .int .u32 0, .slice none 0 0, .string ⟨#[]⟩, .slice none 0 0, .slice none 0 0, .int .u16 0, .int .u32 0, .int .u8 0, .slice none 0 0, .slice none 0 0] :: bk q2 56 (WU Wv Ww) :: bk q1 56 #[.int .i64 kind, .int .u32 ZA, .int .u32 ZC, .int .u64 ZN, .int .u32 ZP, .int .u32 ZI, .int .u32 ZJ, .slice rA rn rc, .string name, .slice sA sn sc, .slice qA qn qc, .int .u16 base, .int .u32 ref, .int .u8 count, .slice aA an ac, .slice wA wn wc] :: M) W4 := Zv
  clear Zv H3 Zc hf1 hl1 hc3 hf3 hl3
  have hb3 : ZO W4 q3 56 #[.int .i64 kind, .int .u32 ZA, .int .u32 ZC, .int .u64 0, .int .u32 0, .int .u32 0, .int .u32 0, .slice none 0 0, .string ⟨#[]⟩, .slice none 0 0, .slice none 0 0, .int .u16 0, .int .u32 0, .int .u8 0, .slice none 0 0, .slice none 0 0] := Zo.at 0 rfl
  have hb2 : ZO W4 q2 56 (WU Wv Ww) := Zo.at 1 rfl
  have hone : (#[.int .i64 kind, .int .u32 ZA, .int .u32 ZC, .int .u64 0, .int .u32 0, .int .u32 0, .int .u32 0, .slice none 0 0, .string ⟨#[]⟩, .slice none 0 0, .slice none 0 0, .int .u16 0, .int .u32 0, .int .u8 0, .slice none 0 0, .slice none 0 0] : Array Value).all (·.oneCell') = true := by simp [Value.oneCell']
  have HS6 := VL (Zo.YS #[.int .i64 kind, .int .u32 ZA, .int .u32 ZC, .int .u64 0, .int .u32 0, .int .u32 0, .int .u32 0, .slice none 0 0, .string ⟨#[]⟩, .slice none 0 0, .slice none 0 0, .int .u16 0, .int .u32 0, .int .u8 0, .slice none 0 0, .slice none 0 0])
  clear Zo
  go_wp2_with (first | refine wpList_load_row rfl 56 (.tmp 3) rfl q3 rfl 56 _ (0, 0) _ hb3 hd rfl Zn ?_ | refine wpList_store_row rfl 56 (.tmp 2) (.tmp 77) rfl q2 #[.int .i64 kind, .int .u32 ZA, .int .u32 ZC, .int .u64 0, .int .u32 0, .int .u32 0, .int .u32 0, .slice none 0 0, .string ⟨#[]⟩, .slice none 0 0, .slice none 0 0, .int .u16 0, .int .u32 0, .int .u8 0, .slice none 0 0, .slice none 0 0] rfl rfl 56 _ hb2 Zn rfl hone ?_)
  refine bodyPost_ret (results_cell_row (p := 2) Try.results33 _ _ q2 56 _ (0, 0) _ rfl (HS6.out.at 1 rfl) hd rfl Zn) rfl ?_
  exact YR.mk (.refl I) HS6.out.drop.drop.drop ⟨rfl, by simp [Xo, k1, k2, k3, k4, k5, k6, k7, k8, HK9.out], rfl⟩
 have HK9 := VL k9
 have k10 : decide (5 <= kind) = false := decide_eq_false k9
 go_upto_region 21 with fail
 have Zv := (H3.out.set 1 (.int .u32 ZA))
 generalize World.setCell W _ _ = W4 at Zv ⊢
 have Zo : St I (bk q3 56 #[.int .i64 kind, .int .u32 ZA, .int .u32 0, .int .u64 0, .int .u32 0, .int .u32 0, .int .u32 0, .slice none 0 0, .string ⟨#[]⟩, .slice none 0 0, .slice none 0 0, .int .u16 0, .int .u32 0, .int .u8 0, .slice none 0 0, .slice none 0 0] :: bk q2 56 (WU Wv Ww) :: bk q1 56 #[.int .i64 kind, .int .u32 ZA, .int .u32 ZC, .int .u64 ZN, .int .u32 ZP, .int .u32 ZI, .int .u32 ZJ, .slice rA rn rc, .string name, .slice sA sn sc, .slice qA qn qc, .int .u16 base, .int .u32 ref, .int .u8 count, .slice aA an ac, .slice wA wn wc] :: M) W4 := Zv
 clear Zv H3 Zc hf1 hl1 hc3 hf3 hl3
 have hb3 : ZO W4 q3 56 #[.int .i64 kind, .int .u32 ZA, .int .u32 0, .int .u64 0, .int .u32 0, .int .u32 0, .int .u32 0, .slice none 0 0, .string ⟨#[]⟩, .slice none 0 0, .slice none 0 0, .int .u16 0, .int .u32 0, .int .u8 0, .slice none 0 0, .slice none 0 0] := Zo.at 0 rfl
 have hb2 : ZO W4 q2 56 (WU Wv Ww) := Zo.at 1 rfl
 have hone : (#[.int .i64 kind, .int .u32 ZA, .int .u32 0, .int .u64 0, .int .u32 0, .int .u32 0, .int .u32 0, .slice none 0 0, .string ⟨#[]⟩, .slice none 0 0, .slice none 0 0, .int .u16 0, .int .u32 0, .int .u8 0, .slice none 0 0, .slice none 0 0] : Array Value).all (·.oneCell') = true := by simp [Value.oneCell']
 have HS6 := VL (Zo.YS #[.int .i64 kind, .int .u32 ZA, .int .u32 0, .int .u64 0, .int .u32 0, .int .u32 0, .int .u32 0, .slice none 0 0, .string ⟨#[]⟩, .slice none 0 0, .slice none 0 0, .int .u16 0, .int .u32 0, .int .u8 0, .slice none 0 0, .slice none 0 0])
 clear Zo
 go_wp2_with (first | refine wpList_load_row rfl 56 (.tmp 3) rfl q3 rfl 56 _ (0, 0) _ hb3 hd rfl Zn ?_ | refine wpList_store_row rfl 56 (.tmp 2) (.tmp 77) rfl q2 #[.int .i64 kind, .int .u32 ZA, .int .u32 0, .int .u64 0, .int .u32 0, .int .u32 0, .int .u32 0, .slice none 0 0, .string ⟨#[]⟩, .slice none 0 0, .slice none 0 0, .int .u16 0, .int .u32 0, .int .u8 0, .slice none 0 0, .slice none 0 0] rfl rfl 56 _ hb2 Zn rfl hone ?_)
 refine bodyPost_ret (results_cell_row (p := 2) Try.results33 _ _ q2 56 _ (0, 0) _ rfl (HS6.out.at 1 rfl) hd rfl Zn) rfl ?_
 exact YR.mk (.refl I) HS6.out.drop.drop.drop ⟨rfl, by simp [Xo, k1, k2, k3, k4, k5, k6, k7, k8, Int.not_le.2 HK9.out], rfl⟩
end Go.Proofs.Ytddopbbmgpnjjaa
