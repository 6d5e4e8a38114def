/- part. -/
import Derived.Test.YtddopbbmgpnjjaaZT01
import Derived.BigRegion
import Derived.Laws.Rows
namespace Go.Proofs.Ytddopbbmgpnjjaa
set_option linter.unusedSimpArgs false
open Go.RowKit
def YO (p : Pk) : Pk where
 kind := p.kind
 ZA := if p.kind = 4 then 0 else p.ZA
 ZC := if 5 <= p.kind then p.ZC else 0
 ZN := if p.kind = 1 then p.ZN else 0
 ZP := if p.kind = 1 then p.ZP else 0
 ZI := if p.kind = 1 then p.ZI else 0
 ZJ := if p.kind = 1 then p.ZJ else 0
 ZE := if p.kind = 1 \/ p.kind = 2 then p.ZE else []
 name := if p.kind = 3 then p.name else ⟨#[]⟩
 ZG := if p.kind = 4 then p.ZG else []
 ZH := if p.kind = 5 then p.ZH else []
 base := if p.kind = 6 then p.base else 0
 ref := if p.kind = 6 then p.ref else 0
 count := if p.kind = 6 then p.count else 0
 ZF := if p.kind = 6 then p.ZF else []
 ZB := if p.kind = 8 then p.ZB else []
abbrev YA : Value := .slice none 0 0
abbrev Wv : Pk := ⟨0, 0, 0, 0, 0, 0, 0, [], ⟨#[]⟩, [], [], 0, 0, 0, [], []⟩
abbrev Ww : Vs := ⟨YA, YA, YA, YA, YA⟩
def Xo (kind ZA ZC ZN ZP ZI ZJ : Int) (rA : Option Addr) (rn rc : Nat) (name : ByteArray) (sA : Option Addr) (sn sc : Nat) (qA : Option Addr) (qn qc : Nat) (base ref count : Int) (aA : Option Addr) (an ac : Nat) (wA : Option Addr) (wn wc : Nat) : Array Value :=
 #[.int .i64 kind, .int .u32 (if kind = 4 then 0 else ZA), .int .u32 (if 5 <= kind then ZC else 0), .int .u64 (if kind = 1 then ZN else 0), .int .u32 (if kind = 1 then ZP else 0), .int .u32 (if kind = 1 then ZI else 0), .int .u32 (if kind = 1 then ZJ else 0),
  .slice (if kind = 1 \/ kind = 2 then rA else none) (if kind = 1 \/ kind = 2 then rn else 0) (if kind = 1 \/ kind = 2 then rc else 0), .string (if kind = 3 then name else ⟨#[]⟩), .slice (if kind = 4 then sA else none) (if kind = 4 then sn else 0) (if kind = 4 then sc else 0),
  .slice (if kind = 5 then qA else none) (if kind = 5 then qn else 0) (if kind = 5 then qc else 0), .int .u16 (if kind = 6 then base else 0), .int .u32 (if kind = 6 then ref else 0), .int .u8 (if kind = 6 then count else 0),
  .slice (if kind = 6 then aA else none) (if kind = 6 then an else 0) (if kind = 6 then ac else 0), .slice (if kind = 8 then wA else none) (if kind = 8 then wn else 0) (if kind = 8 then wc else 0)]
theorem onlyC_ways (k : Int) : k = 1 \/ k = 2 \/ k = 3 \/ k = 4 \/ k = 5 \/ k = 6 \/ k = 7 \/ k = 8 \/ (k ≠ 1 /\ k ≠ 2 /\ k ≠ 3 /\ k ≠ 4 /\ k ≠ 5 /\ k ≠ 6 /\ k ≠ 7 /\ k ≠ 8) := by omega
theorem st51B : (Try.prog.underlying 51).any (fun d => match d with | .struct _ => true | _ => false) = true := by kernel_rfl
theorem st51D : ∃ fs, Try.prog.underlying 51 = some (.struct fs) := by
 have h := st51B
 cases e : Try.prog.underlying 51 with
 | none => rw [e] at h; cases h
 | some d => rw [e] at h; cases d <;> first | exact ⟨_, rfl⟩ | cases h
theorem Zx : (Try.prog.info? 51).map (·.size) = some 16 := by kernel_rfl
set_option maxRecDepth 100000 in
set_option maxHeartbeats 8000000 in
theorem only69 (I : Zh) (M : List Zt) (w : World) (kind ZA ZC ZN ZP ZI ZJ : Int) (rA : Option Addr) (rn rc : Nat) (name : ByteArray) (sA : Option Addr) (sn sc : Nat) (qA : Option Addr) (qn qc : Nat) (base ref count : Int) (aA : Option Addr) (an ac : Nat) (wA : Option Addr) (wn wc : Nat) (ZX : St I M w) :
  Calls Try.prog 69 #[.agg #[.int .i64 kind, .int .u32 ZA, .int .u32 ZC, .int .u64 ZN, .int .u32 ZP, .int .u32 ZI, .int .u32 ZJ, .slice rA rn rc, .string name, .slice sA sn sc, .slice qA qn qc, .int .u16 base, .int .u32 ref, .int .u8 count, .slice aA an ac, .slice wA wn wc]] w (YR I (fun u J M' => I = J /\ u = .agg (Xo kind ZA ZC ZN ZP ZI ZJ rA rn rc name sA sn sc qA qn qc base ref count aA an ac wA wn wc) /\ M' = M)) := by
 have Zf := ((ZX.alloc 51 #[.int .i64 kind, .int .u32 ZA, .int .u32 ZC, .int .u64 ZN, .int .u32 ZP, .int .u32 ZI, .int .u32 ZJ, .slice rA rn rc, .string name, .slice sA sn sc, .slice qA qn qc, .int .u16 base, .int .u32 ref, .int .u8 count, .slice aA an ac, .slice wA wn wc]).alloc 51 (WU Wv Ww)).alloc 51 #[.int .i64 kind, .int .u32 ZA, .int .u32 0, .int .u64 0, .int .u32 0, .int .u32 0, .int .u32 0, .slice none 0 0, .string ⟨#[]⟩, .slice none 0 0, .slice none 0 0, .int .u16 0, .int .u32 0, .int .u8 0, .slice none 0 0, .slice none 0 0]
 simp only [World.size_alloc] at Zf
 obtain ⟨fs, hd⟩ := st51D
 clear ZX
 go_enter Try.func69, Try.ntmps69
 go_upto_region 2 with fail
 obtain ⟨q1, hq1⟩ : ∃ q, q = w.heap.size := ⟨_, rfl⟩
 obtain ⟨q2, hq2⟩ : ∃ q, q = q1 + 1 := ⟨_, rfl⟩
 obtain ⟨q3, hq3⟩ : ∃ q, q = q1 + 1 + 1 := ⟨_, rfl⟩
 rw [<- hq1, <- hq3, <- hq2] at Zf
 rw [<- hq1, <- hq3, <- hq2]
 generalize World.alloc (World.alloc (World.alloc w _) _) _ = W at Zf ⊢
 have hne : q1 ≠ q3 := by omega
 have hne' : q3 ≠ q1 := by omega
 clear hq1 hq2 hq3
 obtain ⟨Zc, hf1, hl1⟩ := ZO.all (Zf.at 2 rfl)
 obtain ⟨hc3, hf3, hl3⟩ := ZO.all (Zf.at 0 rfl)
 have H3 := VL Zf
 clear Zf
 rcases onlyC_ways kind with rfl | rfl | rfl | rfl | rfl | rfl | rfl | rfl | ⟨k1, k2, k3, k4, k5, k6, k7, k8⟩
 ·skip
  go_upto_region 6 with fail
  go_region
  have Zv := (((((H3.out.set 3 (.int .u64 ZN)).set 4 (.int .u32 ZP)).set 5 (.int .u32 ZI)).set 6 (.int .u32 ZJ)).set 7 (.slice rA rn rc)).drew
  generalize World.drew _ = W4 at Zv ⊢
  have Zo : St I (bk q3 51 #[.int .i64 1, .int .u32 ZA, .int .u32 0, .int .u64 ZN, .int .u32 ZP, .int .u32 ZI, .int .u32 ZJ, .slice rA rn rc, .string ⟨#[]⟩, .slice none 0 0, .slice none 0 0, .int .u16 0, .int .u32 0, .int .u8 0, .slice none 0 0, .slice none 0 0] :: bk q2 51 (WU Wv Ww) :: bk q1 51 #[.int .i64 1, .int .u32 ZA, .int .u32 ZC, .int .u64 ZN, .int .u32 ZP, .int .u32 ZI, .int .u32 ZJ, .slice rA rn rc, .string name, .slice sA sn sc, .slice qA qn qc, .int .u16 base, .int .u32 ref, .int .u8 count, .slice aA an ac, .slice wA wn wc] :: M) W4 := Zv
  clear Zv H3 Zc hf1 hl1 hc3 hf3 hl3
  have hb3 : ZO W4 q3 51 #[.int .i64 1, .int .u32 ZA, .int .u32 0, .int .u64 ZN, .int .u32 ZP, .int .u32 ZI, .int .u32 ZJ, .slice rA rn rc, .string ⟨#[]⟩, .slice none 0 0, .slice none 0 0, .int .u16 0, .int .u32 0, .int .u8 0, .slice none 0 0, .slice none 0 0] := Zo.at 0 rfl
  have hb2 : ZO W4 q2 51 (WU Wv Ww) := Zo.at 1 rfl
  have hone : (#[.int .i64 1, .int .u32 ZA, .int .u32 0, .int .u64 ZN, .int .u32 ZP, .int .u32 ZI, .int .u32 ZJ, .slice rA rn rc, .string ⟨#[]⟩, .slice none 0 0, .slice none 0 0, .int .u16 0, .int .u32 0, .int .u8 0, .slice none 0 0, .slice none 0 0] : Array Value).all (·.oneCell') = true := by simp [Value.oneCell']
  have HS6 := VL (Zo.YS #[.int .i64 1, .int .u32 ZA, .int .u32 0, .int .u64 ZN, .int .u32 ZP, .int .u32 ZI, .int .u32 ZJ, .slice rA rn rc, .string ⟨#[]⟩, .slice none 0 0, .slice none 0 0, .int .u16 0, .int .u32 0, .int .u8 0, .slice none 0 0, .slice none 0 0])
  clear Zo
  go_wp2_with (first | refine wpList_load_row rfl 51 (.tmp 3) rfl q3 rfl 51 _ (0, 0) _ hb3 hd rfl Zx ?_ | refine wpList_store_row rfl 51 (.tmp 2) (.tmp 74) rfl q2 #[.int .i64 1, .int .u32 ZA, .int .u32 0, .int .u64 ZN, .int .u32 ZP, .int .u32 ZI, .int .u32 ZJ, .slice rA rn rc, .string ⟨#[]⟩, .slice none 0 0, .slice none 0 0, .int .u16 0, .int .u32 0, .int .u8 0, .slice none 0 0, .slice none 0 0] rfl rfl 51 _ hb2 Zx rfl hone ?_)
  refine bodyPost_ret (results_cell_row (p := 2) Try.results69 _ _ q2 51 _ (0, 0) _ rfl (HS6.out.at 1 rfl) hd rfl Zx) rfl ?_
  exact YR.mk (.refl I) HS6.out.drop.drop.drop ⟨rfl, by simp [Xo], rfl⟩
 ·skip
  go_upto_region 19 with fail
  have Zv := (H3.out.set 7 (.slice rA rn rc))
  generalize World.setCell W _ _ = W4 at Zv ⊢
  have Zo : St I (bk q3 51 #[.int .i64 2, .int .u32 ZA, .int .u32 0, .int .u64 0, .int .u32 0, .int .u32 0, .int .u32 0, .slice rA rn rc, .string ⟨#[]⟩, .slice none 0 0, .slice none 0 0, .int .u16 0, .int .u32 0, .int .u8 0, .slice none 0 0, .slice none 0 0] :: bk q2 51 (WU Wv Ww) :: bk q1 51 #[.int .i64 2, .int .u32 ZA, .int .u32 ZC, .int .u64 ZN, .int .u32 ZP, .int .u32 ZI, .int .u32 ZJ, .slice rA rn rc, .string name, .slice sA sn sc, .slice qA qn qc, .int .u16 base, .int .u32 ref, .int .u8 count, .slice aA an ac, .slice wA wn wc] :: M) W4 := Zv
  clear Zv H3 Zc hf1 hl1 hc3 hf3 hl3
  have hb3 : ZO W4 q3 51 #[.int .i64 2, .int .u32 ZA, .int .u32 0, .int .u64 0, .int .u32 0, .int .u32 0, .int .u32 0, .slice rA rn rc, .string ⟨#[]⟩, .slice none 0 0, .slice none 0 0, .int .u16 0, .int .u32 0, .int .u8 0, .slice none 0 0, .slice none 0 0] := Zo.at 0 rfl
  have hb2 : ZO W4 q2 51 (WU Wv Ww) := Zo.at 1 rfl
  have hone : (#[.int .i64 2, .int .u32 ZA, .int .u32 0, .int .u64 0, .int .u32 0, .int .u32 0, .int .u32 0, .slice rA rn rc, .string ⟨#[]⟩, .slice none 0 0, .slice none 0 0, .int .u16 0, .int .u32 0, .int .u8 0, .slice none 0 0, .slice none 0 0] : Array Value).all (·.oneCell') = true := by simp [Value.oneCell']
  have HS6 := VL (Zo.YS #[.int .i64 2, .int .u32 ZA, .int .u32 0, .int .u64 0, .int .u32 0, .int .u32 0, .int .u32 0, .slice rA rn rc, .string ⟨#[]⟩, .slice none 0 0, .slice none 0 0, .int .u16 0, .int .u32 0, .int .u8 0, .slice none 0 0, .slice none 0 0])
  clear Zo
  go_wp2_with (first | refine wpList_load_row rfl 51 (.tmp 3) rfl q3 rfl 51 _ (0, 0) _ hb3 hd rfl Zx ?_ | refine wpList_store_row rfl 51 (.tmp 2) (.tmp 74) rfl q2 #[.int .i64 2, .int .u32 ZA, .int .u32 0, .int .u64 0, .int .u32 0, .int .u32 0, .int .u32 0, .slice rA rn rc, .string ⟨#[]⟩, .slice none 0 0, .slice none 0 0, .int .u16 0, .int .u32 0, .int .u8 0, .slice none 0 0, .slice none 0 0] rfl rfl 51 _ hb2 Zx rfl hone ?_)
  refine bodyPost_ret (results_cell_row (p := 2) Try.results69 _ _ q2 51 _ (0, 0) _ rfl (HS6.out.at 1 rfl) hd rfl Zx) rfl ?_
  exact YR.mk (.refl I) HS6.out.drop.drop.drop ⟨rfl, by simp [Xo], rfl⟩
 ·skip
  go_upto_region 19 with fail
  have Zv := (H3.out.set 8 (.string name))
  generalize World.setCell W _ _ = W4 at Zv ⊢
  have Zo : St I (bk q3 51 #[.int .i64 3, .int .u32 ZA, .int .u32 0, .int .u64 0, .int .u32 0, .int .u32 0, .int .u32 0, .slice none 0 0, .string name, .slice none 0 0, .slice none 0 0, .int .u16 0, .int .u32 0, .int .u8 0, .slice none 0 0, .slice none 0 0] :: bk q2 51 (WU Wv Ww) :: bk q1 51 #[.int .i64 3, .int .u32 ZA, .int .u32 ZC, .int .u64 ZN, .int .u32 ZP, .int .u32 ZI, .int .u32 ZJ, .slice rA rn rc, .string name, .slice sA sn sc, .slice qA qn qc, .int .u16 base, .int .u32 ref, .int .u8 count, .slice aA an ac, .slice wA wn wc] :: M) W4 := Zv
  clear Zv H3 Zc hf1 hl1 hc3 hf3 hl3
  have hb3 : ZO W4 q3 51 #[.int .i64 3, .int .u32 ZA, .int .u32 0, .int .u64 0, .int .u32 0, .int .u32 0, .int .u32 0, .slice none 0 0, .string name, .slice none 0 0, .slice none 0 0, .int .u16 0, .int .u32 0, .int .u8 0, .slice none 0 0, .slice none 0 0] := Zo.at 0 rfl
  have hb2 : ZO W4 q2 51 (WU Wv Ww) := Zo.at 1 rfl
  have hone : (#[.int .i64 3, .int .u32 ZA, .int .u32 0, .int .u64 0, .int .u32 0, .int .u32 0, .int .u32 0, .slice none 0 0, .string name, .slice none 0 0, .slice none 0 0, .int .u16 0, .int .u32 0, .int .u8 0, .slice none 0 0, .slice none 0 0] : Array Value).all (·.oneCell') = true := by simp [Value.oneCell']
  have HS6 := VL (Zo.YS #[.int .i64 3, .int .u32 ZA, .int .u32 0, .int .u64 0, .int .u32 0, .int .u32 0, .int .u32 0, .slice none 0 0, .string name, .slice none 0 0, .slice none 0 0, .int .u16 0, .int .u32 0, .int .u8 0, .slice none 0 0, .slice none 0 0])
  clear Zo
  go_wp2_with (first | refine wpList_load_row rfl 51 (.tmp 3) rfl q3 rfl 51 _ (0, 0) _ hb3 hd rfl Zx ?_ | refine wpList_store_row rfl 51 (.tmp 2) (.tmp 74) rfl q2 #[.int .i64 3, .int .u32 ZA, .int .u32 0, .int .u64 0, .int .u32 0, .int .u32 0, .int .u32 0, .slice none 0 0, .string name, .slice none 0 0, .slice none 0 0, .int .u16 0, .int .u32 0, .int .u8 0, .slice none 0 0, .slice none 0 0] rfl rfl 51 _ hb2 Zx rfl hone ?_)
  refine bodyPost_ret (results_cell_row (p := 2) Try.results69 _ _ q2 51 _ (0, 0) _ rfl (HS6.out.at 1 rfl) hd rfl Zx) rfl ?_
  exact YR.mk (.refl I) HS6.out.drop.drop.drop ⟨rfl, by simp [Xo], rfl⟩
 ·skip
  go_upto_region 12 with fail
  go_region
  have Zv := ((H3.out.set 1 (.int .u32 0)).set 9 (.slice sA sn sc)).drew
  generalize World.drew _ = W4 at Zv ⊢
  have Zo : St I (bk q3 51 #[.int .i64 4, .int .u32 0, .int .u32 0, .int .u64 0, .int .u32 0, .int .u32 0, .int .u32 0, .slice none 0 0, .string ⟨#[]⟩, .slice sA sn sc, .slice none 0 0, .int .u16 0, .int .u32 0, .int .u8 0, .slice none 0 0, .slice none 0 0] :: bk q2 51 (WU Wv Ww) :: bk q1 51 #[.int .i64 4, .int .u32 ZA, .int .u32 ZC, .int .u64 ZN, .int .u32 ZP, .int .u32 ZI, .int .u32 ZJ, .slice rA rn rc, .string name, .slice sA sn sc, .slice qA qn qc, .int .u16 base, .int .u32 ref, .int .u8 count, .slice aA an ac, .slice wA wn wc] :: M) W4 := Zv
  clear Zv H3 Zc hf1 hl1 hc3 hf3 hl3
  have hb3 : ZO W4 q3 51 #[.int .i64 4, .int .u32 0, .int .u32 0, .int .u64 0, .int .u32 0, .int .u32 0, .int .u32 0, .slice none 0 0, .string ⟨#[]⟩, .slice sA sn sc, .slice none 0 0, .int .u16 0, .int .u32 0, .int .u8 0, .slice none 0 0, .slice none 0 0] := Zo.at 0 rfl
  have hb2 : ZO W4 q2 51 (WU Wv Ww) := Zo.at 1 rfl
  have hone : (#[.int .i64 4, .int .u32 0, .int .u32 0, .int .u64 0, .int .u32 0, .int .u32 0, .int .u32 0, .slice none 0 0, .string ⟨#[]⟩, .slice sA sn sc, .slice none 0 0, .int .u16 0, .int .u32 0, .int .u8 0, .slice none 0 0, .slice none 0 0] : Array Value).all (·.oneCell') = true := by simp [Value.oneCell']
  have HS6 := VL (Zo.YS #[.int .i64 4, .int .u32 0, .int .u32 0, .int .u64 0, .int .u32 0, .int .u32 0, .int .u32 0, .slice none 0 0, .string ⟨#[]⟩, .slice sA sn sc, .slice none 0 0, .int .u16 0, .int .u32 0, .int .u8 0, .slice none 0 0, .slice none 0 0])
  clear Zo
  go_wp2_with (first | refine wpList_load_row rfl 51 (.tmp 3) rfl q3 rfl 51 _ (0, 0) _ hb3 hd rfl Zx ?_ | refine wpList_store_row rfl 51 (.tmp 2) (.tmp 74) rfl q2 #[.int .i64 4, .int .u32 0, .int .u32 0, .int .u64 0, .int .u32 0, .int .u32 0, .int .u32 0, .slice none 0 0, .string ⟨#[]⟩, .slice sA sn sc, .slice none 0 0, .int .u16 0, .int .u32 0, .int .u8 0, .slice none 0 0, .slice none 0 0] rfl rfl 51 _ hb2 Zx rfl hone ?_)
  refine bodyPost_ret (results_cell_row (p := 2) Try.results69 _ _ q2 51 _ (0, 0) _ rfl (HS6.out.at 1 rfl) hd rfl Zx) rfl ?_
  exact YR.mk (.refl I) HS6.out.drop.drop.drop ⟨rfl, by simp [Xo], rfl⟩
 ·skip
  go_upto_region 19 with fail
  have Zv := ((H3.out.set 2 (.int .u32 ZC)).set 10 (.slice qA qn qc))
  generalize World.setCell (World.setCell W _ _) _ _ = W4 at Zv ⊢
  have Zo : St I (bk q3 51 #[.int .i64 5, .int .u32 ZA, .int .u32 ZC, .int .u64 0, .int .u32 0, .int .u32 0, .int .u32 0, .slice none 0 0, .string ⟨#[]⟩, .slice none 0 0, .slice qA qn qc, .int .u16 0, .int .u32 0, .int .u8 0, .slice none 0 0, .slice none 0 0] :: bk q2 51 (WU Wv Ww) :: bk q1 51 #[.int .i64 5, .int .u32 ZA, .int .u32 ZC, .int .u64 ZN, .int .u32 ZP, .int .u32 ZI, .int .u32 ZJ, .slice rA rn rc, .string name, .slice sA sn sc, .slice qA qn qc, .int .u16 base, .int .u32 ref, .int .u8 count, .slice aA an ac, .slice wA wn wc] :: M) W4 := Zv
  clear Zv H3 Zc hf1 hl1 hc3 hf3 hl3
  have hb3 : ZO W4 q3 51 #[.int .i64 5, .int .u32 ZA, .int .u32 ZC, .int .u64 0, .int .u32 0, .int .u32 0, .int .u32 0, .slice none 0 0, .string ⟨#[]⟩, .slice none 0 0, .slice qA qn qc, .int .u16 0, .int .u32 0, .int .u8 0, .slice none 0 0, .slice none 0 0] := Zo.at 0 rfl
  have hb2 : ZO W4 q2 51 (WU Wv Ww) := Zo.at 1 rfl
  have hone : (#[.int .i64 5, .int .u32 ZA, .int .u32 ZC, .int .u64 0, .int .u32 0, .int .u32 0, .int .u32 0, .slice none 0 0, .string ⟨#[]⟩, .slice none 0 0, .slice qA qn qc, .int .u16 0, .int .u32 0, .int .u8 0, .slice none 0 0, .slice none 0 0] : Array Value).all (·.oneCell') = true := by simp [Value.oneCell']
  have HS6 := VL (Zo.YS #[.int .i64 5, .int .u32 ZA, .int .u32 ZC, .int .u64 0, .int .u32 0, .int .u32 0, .int .u32 0, .slice none 0 0, .string ⟨#[]⟩, .slice none 0 0, .slice qA qn qc, .int .u16 0, .int .u32 0, .int .u8 0, .slice none 0 0, .slice none 0 0])
  clear Zo
  go_wp2_with (first | refine wpList_load_row rfl 51 (.tmp 3) rfl q3 rfl 51 _ (0, 0) _ hb3 hd rfl Zx ?_ | refine wpList_store_row rfl 51 (.tmp 2) (.tmp 74) rfl q2 #[.int .i64 5, .int .u32 ZA, .int .u32 ZC, .int .u64 0, .int .u32 0, .int .u32 0, .int .u32 0, .slice none 0 0, .string ⟨#[]⟩, .slice none 0 0, .slice qA qn qc, .int .u16 0, .int .u32 0, .int .u8 0, .slice none 0 0, .slice none 0 0] rfl rfl 51 _ hb2 Zx rfl hone ?_)
  refine bodyPost_ret (results_cell_row (p := 2) Try.results69 _ _ q2 51 _ (0, 0) _ rfl (HS6.out.at 1 rfl) hd rfl Zx) rfl ?_
  exact YR.mk (.refl I) HS6.out.drop.drop.drop ⟨rfl, by simp [Xo], rfl⟩
 ·skip
  go_upto_region 16 with fail
  go_region
  have Zv := (((((H3.out.set 2 (.int .u32 ZC)).set 11 (.int .u16 base)).set 12 (.int .u32 ref)).set 13 (.int .u8 count)).set 14 (.slice aA an ac)).drew
  generalize World.drew _ = W4 at Zv ⊢
  have Zo : St I (bk q3 51 #[.int .i64 6, .int .u32 ZA, .int .u32 ZC, .int .u64 0, .int .u32 0, .int .u32 0, .int .u32 0, .slice none 0 0, .string ⟨#[]⟩, .slice none 0 0, .slice none 0 0, .int .u16 base, .int .u32 ref, .int .u8 count, .slice aA an ac, .slice none 0 0] :: bk q2 51 (WU Wv Ww) :: bk q1 51 #[.int .i64 6, .int .u32 ZA, .int .u32 ZC, .int .u64 ZN, .int .u32 ZP, .int .u32 ZI, .int .u32 ZJ, .slice rA rn rc, .string name, .slice sA sn sc, .slice qA qn qc, .int .u16 base, .int .u32 ref, .int .u8 count, .slice aA an ac, .slice wA wn wc] :: M) W4 := Zv
  clear Zv H3 Zc hf1 hl1 hc3 hf3 hl3
  have hb3 : ZO W4 q3 51 #[.int .i64 6, .int .u32 ZA, .int .u32 ZC, .int .u64 0, .int .u32 0, .int .u32 0, .int .u32 0, .slice none 0 0, .string ⟨#[]⟩, .slice none 0 0, .slice none 0 0, .int .u16 base, .int .u32 ref, .int .u8 count, .slice aA an ac, .slice none 0 0] := Zo.at 0 rfl
  have hb2 : ZO W4 q2 51 (WU Wv Ww) := Zo.at 1 rfl
  have hone : (#[.int .i64 6, .int .u32 ZA, .int .u32 ZC, .int .u64 0, .int .u32 0, .int .u32 0, .int .u32 0, .slice none 0 0, .string ⟨#[]⟩, .slice none 0 0, .slice none 0 0, .int .u16 base, .int .u32 ref, .int .u8 count, .slice aA an ac, .slice none 0 0] : Array Value).all (·.oneCell') = true := by simp [Value.oneCell']
  have HS6 := VL (Zo.YS #[.int .i64 6, .int .u32 ZA, .int .u32 ZC, .int .u64 0, .int .u32 0, .int .u32 0, .int .u32 0, .slice none 0 0, .string ⟨#[]⟩, .slice none 0 0, .slice none 0 0, .int .u16 base, .int .u32 ref, .int .u8 count, .slice aA an ac, .slice none 0 0])
  clear Zo
  go_wp2_with (first | refine wpList_load_row rfl 51 (.tmp 3) rfl q3 rfl 51 _ (0, 0) _ hb3 hd rfl Zx ?_ | refine wpList_store_row rfl 51 (.tmp 2) (.tmp 74) rfl q2 #[.int .i64 6, .int .u32 ZA, .int .u32 ZC, .int .u64 0, .int .u32 0, .int .u32 0, .int .u32 0, .slice none 0 0, .string ⟨#[]⟩, .slice none 0 0, .slice none 0 0, .int .u16 base, .int .u32 ref, .int .u8 count, .slice aA an ac, .slice none 0 0] rfl rfl 51 _ hb2 Zx rfl hone ?_)
  refine bodyPost_ret (results_cell_row (p := 2) Try.results69 _ _ q2 51 _ (0, 0) _ rfl (HS6.out.at 1 rfl) hd rfl Zx) rfl ?_
  exact YR.mk (.refl I) HS6.out.drop.drop.drop ⟨rfl, by simp [Xo], rfl⟩
 ·skip
  go_upto_region 19 with fail
  have Zv := (H3.out.set 2 (.int .u32 ZC))
  generalize World.setCell W _ _ = W4 at Zv ⊢
  have Zo : St I (bk q3 51 #[.int .i64 7, .int .u32 ZA, .int .u32 ZC, .int .u64 0, .int .u32 0, .int .u32 0, .int .u32 0, .slice none 0 0, .string ⟨#[]⟩, .slice none 0 0, .slice none 0 0, .int .u16 0, .int .u32 0, .int .u8 0, .slice none 0 0, .slice none 0 0] :: bk q2 51 (WU Wv Ww) :: bk q1 51 #[.int .i64 7, .int .u32 ZA, .int .u32 ZC, .int .u64 ZN, .int .u32 ZP, .int .u32 ZI, .int .u32 ZJ, .slice rA rn rc, .string name, .slice sA sn sc, .slice qA qn qc, .int .u16 base, .int .u32 ref, .int .u8 count, .slice aA an ac, .slice wA wn wc] :: M) W4 := Zv
  clear Zv H3 Zc hf1 hl1 hc3 hf3 hl3
  have hb3 : ZO W4 q3 51 #[.int .i64 7, .int .u32 ZA, .int .u32 ZC, .int .u64 0, .int .u32 0, .int .u32 0, .int .u32 0, .slice none 0 0, .string ⟨#[]⟩, .slice none 0 0, .slice none 0 0, .int .u16 0, .int .u32 0, .int .u8 0, .slice none 0 0, .slice none 0 0] := Zo.at 0 rfl
  have hb2 : ZO W4 q2 51 (WU Wv Ww) := Zo.at 1 rfl
  have hone : (#[.int .i64 7, .int .u32 ZA, .int .u32 ZC, .int .u64 0, .int .u32 0, .int .u32 0, .int .u32 0, .slice none 0 0, .string ⟨#[]⟩, .slice none 0 0, .slice none 0 0, .int .u16 0, .int .u32 0, .int .u8 0, .slice none 0 0, .slice none 0 0] : Array Value).all (·.oneCell') = true := by simp [Value.oneCell']
  have HS6 := VL (Zo.YS #[.int .i64 7, .int .u32 ZA, .int .u32 ZC, .int .u64 0, .int .u32 0, .int .u32 0, .int .u32 0, .slice none 0 0, .string ⟨#[]⟩, .slice none 0 0, .slice none 0 0, .int .u16 0, .int .u32 0, .int .u8 0, .slice none 0 0, .slice none 0 0])
  clear Zo
  go_wp2_with (first | refine wpList_load_row rfl 51 (.tmp 3) rfl q3 rfl 51 _ (0, 0) _ hb3 hd rfl Zx ?_ | refine wpList_store_row rfl 51 (.tmp 2) (.tmp 74) rfl q2 #[.int .i64 7, .int .u32 ZA, .int .u32 ZC, .int .u64 0, .int .u32 0, .int .u32 0, .int .u32 0, .slice none 0 0, .string ⟨#[]⟩, .slice none 0 0, .slice none 0 0, .int .u16 0, .int .u32 0, .int .u8 0, .slice none 0 0, .slice none 0 0] rfl rfl 51 _ hb2 Zx rfl hone ?_)
  refine bodyPost_ret (results_cell_row (p := 2) Try.results69 _ _ q2 51 _ (0, 0) _ rfl (HS6.out.at 1 rfl) hd rfl Zx) rfl ?_
  exact YR.mk (.refl I) HS6.out.drop.drop.drop ⟨rfl, by simp [Xo], rfl⟩
 ·skip
  go_upto_region 19 with fail
  have Zv := ((H3.out.set 2 (.int .u32 ZC)).set 15 (.slice wA wn wc))
  generalize World.setCell (World.setCell W _ _) _ _ = W4 at Zv ⊢
  have Zo : St I (bk q3 51 #[.int .i64 8, .int .u32 ZA, .int .u32 ZC, .int .u64 0, .int .u32 0, .int .u32 0, .int .u32 0, .slice none 0 0, .string ⟨#[]⟩, .slice none 0 0, .slice none 0 0, .int .u16 0, .int .u32 0, .int .u8 0, .slice none 0 0, .slice wA wn wc] :: bk q2 51 (WU Wv Ww) :: bk q1 51 #[.int .i64 8, .int .u32 ZA, .int .u32 ZC, .int .u64 ZN, .int .u32 ZP, .int .u32 ZI, .int .u32 ZJ, .slice rA rn rc, .string name, .slice sA sn sc, .slice qA qn qc, .int .u16 base, .int .u32 ref, .int .u8 count, .slice aA an ac, .slice wA wn wc] :: M) W4 := Zv
  clear Zv H3 Zc hf1 hl1 hc3 hf3 hl3
  have hb3 : ZO W4 q3 51 #[.int .i64 8, .int .u32 ZA, .int .u32 ZC, .int .u64 0, .int .u32 0, .int .u32 0, .int .u32 0, .slice none 0 0, .string ⟨#[]⟩, .slice none 0 0, .slice none 0 0, .int .u16 0, .int .u32 0, .int .u8 0, .slice none 0 0, .slice wA wn wc] := Zo.at 0 rfl
  have hb2 : ZO W4 q2 51 (WU Wv Ww) := Zo.at 1 rfl
  have hone : (#[.int .i64 8, .int .u32 ZA, .int .u32 ZC, .int .u64 0, .int .u32 0, .int .u32 0, .int .u32 0, .slice none 0 0, .string ⟨#[]⟩, .slice none 0 0, .slice none 0 0, .int .u16 0, .int .u32 0, .int .u8 0, .slice none 0 0, .slice wA wn wc] : Array Value).all (·.oneCell') = true := by simp [Value.oneCell']
  have HS6 := VL (Zo.YS #[.int .i64 8, .int .u32 ZA, .int .u32 ZC, .int .u64 0, .int .u32 0, .int .u32 0, .int .u32 0, .slice none 0 0, .string ⟨#[]⟩, .slice none 0 0, .slice none 0 0, .int .u16 0, .int .u32 0, .int .u8 0, .slice none 0 0, .slice wA wn wc])
  clear Zo
  go_wp2_with (first | refine wpList_load_row rfl 51 (.tmp 3) rfl q3 rfl 51 _ (0, 0) _ hb3 hd rfl Zx ?_ | refine wpList_store_row rfl 51 (.tmp 2) (.tmp 74) rfl q2 #[.int .i64 8, .int .u32 ZA, .int .u32 ZC, .int .u64 0, .int .u32 0, .int .u32 0, .int .u32 0, .slice none 0 0, .string ⟨#[]⟩, .slice none 0 0, .slice none 0 0, .int .u16 0, .int .u32 0, .int .u8 0, .slice none 0 0, .slice wA wn wc] rfl rfl 51 _ hb2 Zx rfl hone ?_)
  refine bodyPost_ret (results_cell_row (p := 2) Try.results69 _ _ q2 51 _ (0, 0) _ rfl (HS6.out.at 1 rfl) hd rfl Zx) rfl ?_
  exact YR.mk (.refl I) HS6.out.drop.drop.drop ⟨rfl, by simp [Xo], rfl⟩
 have g1 : (kind == 1) = false := beq_eq_false_iff_ne.2 k1
 have g2 : (kind == 2) = false := beq_eq_false_iff_ne.2 k2
 have g3 : (kind == 3) = false := beq_eq_false_iff_ne.2 k3
 have g4 : (kind == 4) = false := beq_eq_false_iff_ne.2 k4
 have g5 : (kind == 5) = false := beq_eq_false_iff_ne.2 k5
 have g6 : (kind == 6) = false := beq_eq_false_iff_ne.2 k6
 have g7 : (kind == 7) = false := beq_eq_false_iff_ne.2 k7
 have g8 : (kind == 8) = false := beq_eq_false_iff_ne.2 k8
 by_cases k9 : 5 <= kind
 ·have HK9 := VL k9
  go_upto_region 19 with fail
  have Zv := (H3.out.set 2 (.int .u32 ZC))
  generalize World.setCell W _ _ = W4 at Zv ⊢
  have Zo : St I (bk q3 51 #[.int .i64 kind, .int .u32 ZA, .int .u32 ZC, .int .u64 0, .int .u32 0, .int .u32 0, .int .u32 0, .slice none 0 0, .string ⟨#[]⟩, .slice none 0 0, .slice none 0 0, .int .u16 0, .int .u32 0, .int .u8 0, .slice none 0 0, .slice none 0 0] :: bk q2 51 (WU Wv Ww) :: bk q1 51 #[.int .i64 kind, .int .u32 ZA, .int .u32 ZC, .int .u64 ZN, .int .u32 ZP, .int .u32 ZI, .int .u32 ZJ, .slice rA rn rc, .string name, .slice sA sn sc, .slice qA qn qc, .int .u16 base, .int .u32 ref, .int .u8 count, .slice aA an ac, .slice wA wn wc] :: M) W4 := Zv
  clear Zv H3 Zc hf1 hl1 hc3 hf3 hl3
  have hb3 : ZO W4 q3 51 #[.int .i64 kind, .int .u32 ZA, .int .u32 ZC, .int .u64 0, .int .u32 0, .int .u32 0, .int .u32 0, .slice none 0 0, .string ⟨#[]⟩, .slice none 0 0, .slice none 0 0, .int .u16 0, .int .u32 0, .int .u8 0, .slice none 0 0, .slice none 0 0] := Zo.at 0 rfl
  have hb2 : ZO W4 q2 51 (WU Wv Ww) := Zo.at 1 rfl
  have hone : (#[.int .i64 kind, .int .u32 ZA, .int .u32 ZC, .int .u64 0, .int .u32 0, .int .u32 0, .int .u32 0, .slice none 0 0, .string ⟨#[]⟩, .slice none 0 0, .slice none 0 0, .int .u16 0, .int .u32 0, .int .u8 0, .slice none 0 0, .slice none 0 0] : Array Value).all (·.oneCell') = true := by simp [Value.oneCell']
  have HS6 := VL (Zo.YS #[.int .i64 kind, .int .u32 ZA, .int .u32 ZC, .int .u64 0, .int .u32 0, .int .u32 0, .int .u32 0, .slice none 0 0, .string ⟨#[]⟩, .slice none 0 0, .slice none 0 0, .int .u16 0, .int .u32 0, .int .u8 0, .slice none 0 0, .slice none 0 0])
  clear Zo
  go_wp2_with (first | refine wpList_load_row rfl 51 (.tmp 3) rfl q3 rfl 51 _ (0, 0) _ hb3 hd rfl Zx ?_ | refine wpList_store_row rfl 51 (.tmp 2) (.tmp 74) rfl q2 #[.int .i64 kind, .int .u32 ZA, .int .u32 ZC, .int .u64 0, .int .u32 0, .int .u32 0, .int .u32 0, .slice none 0 0, .string ⟨#[]⟩, .slice none 0 0, .slice none 0 0, .int .u16 0, .int .u32 0, .int .u8 0, .slice none 0 0, .slice none 0 0] rfl rfl 51 _ hb2 Zx rfl hone ?_)
  refine bodyPost_ret (results_cell_row (p := 2) Try.results69 _ _ q2 51 _ (0, 0) _ rfl (HS6.out.at 1 rfl) hd rfl Zx) rfl ?_
  exact YR.mk (.refl I) HS6.out.drop.drop.drop ⟨rfl, by simp [Xo, k1, k2, k3, k4, k5, k6, k7, k8, HK9.out], rfl⟩
 have HK9 := VL k9
 have k10 : decide (5 <= kind) = false := decide_eq_false k9
 go_upto_region 19 with fail
 have Zv := H3.out
 obtain ⟨W4, hW4⟩ : ∃ W4, W4 = W := ⟨_, rfl⟩
 rw [<- hW4] at Zv ⊢
 clear hW4
 have Zo : St I (bk q3 51 #[.int .i64 kind, .int .u32 ZA, .int .u32 0, .int .u64 0, .int .u32 0, .int .u32 0, .int .u32 0, .slice none 0 0, .string ⟨#[]⟩, .slice none 0 0, .slice none 0 0, .int .u16 0, .int .u32 0, .int .u8 0, .slice none 0 0, .slice none 0 0] :: bk q2 51 (WU Wv Ww) :: bk q1 51 #[.int .i64 kind, .int .u32 ZA, .int .u32 ZC, .int .u64 ZN, .int .u32 ZP, .int .u32 ZI, .int .u32 ZJ, .slice rA rn rc, .string name, .slice sA sn sc, .slice qA qn qc, .int .u16 base, .int .u32 ref, .int .u8 count, .slice aA an ac, .slice wA wn wc] :: M) W4 := Zv
 clear Zv H3 Zc hf1 hl1 hc3 hf3 hl3
 have hb3 : ZO W4 q3 51 #[.int .i64 kind, .int .u32 ZA, .int .u32 0, .int .u64 0, .int .u32 0, .int .u32 0, .int .u32 0, .slice none 0 0, .string ⟨#[]⟩, .slice none 0 0, .slice none 0 0, .int .u16 0, .int .u32 0, .int .u8 0, .slice none 0 0, .slice none 0 0] := Zo.at 0 rfl
 have hb2 : ZO W4 q2 51 (WU Wv Ww) := Zo.at 1 rfl
 have hone : (#[.int .i64 kind, .int .u32 ZA, .int .u32 0, .int .u64 0, .int .u32 0, .int .u32 0, .int .u32 0, .slice none 0 0, .string ⟨#[]⟩, .slice none 0 0, .slice none 0 0, .int .u16 0, .int .u32 0, .int .u8 0, .slice none 0 0, .slice none 0 0] : Array Value).all (·.oneCell') = true := by simp [Value.oneCell']
 have HS6 := VL (Zo.YS #[.int .i64 kind, .int .u32 ZA, .int .u32 0, .int .u64 0, .int .u32 0, .int .u32 0, .int .u32 0, .slice none 0 0, .string ⟨#[]⟩, .slice none 0 0, .slice none 0 0, .int .u16 0, .int .u32 0, .int .u8 0, .slice none 0 0, .slice none 0 0])
 clear Zo
 go_wp2_with (first | refine wpList_load_row rfl 51 (.tmp 3) rfl q3 rfl 51 _ (0, 0) _ hb3 hd rfl Zx ?_ | refine wpList_store_row rfl 51 (.tmp 2) (.tmp 74) rfl q2 #[.int .i64 kind, .int .u32 ZA, .int .u32 0, .int .u64 0, .int .u32 0, .int .u32 0, .int .u32 0, .slice none 0 0, .string ⟨#[]⟩, .slice none 0 0, .slice none 0 0, .int .u16 0, .int .u32 0, .int .u8 0, .slice none 0 0, .slice none 0 0] rfl rfl 51 _ hb2 Zx rfl hone ?_)
 refine bodyPost_ret (results_cell_row (p := 2) Try.results69 _ _ q2 51 _ (0, 0) _ rfl (HS6.out.at 1 rfl) hd rfl Zx) rfl ?_
 exact YR.mk (.refl I) HS6.out.drop.drop.drop ⟨rfl, by simp [Xo, k1, k2, k3, k4, k5, k6, k7, k8, Int.not_le.2 HK9.out], rfl⟩
section
variable {P : Program} {ops : Array Oper} {rest : List Oper} {o : Oper} {a : Act} {w : World} {Q : Exit -> Act -> World -> Prop}
def gv (b : Bool) (v : Value) : Value := if b then v else undef
theorem gd_sym (b : Bool) (v : Value) (hw : Region.wanted o (yielded ops a.tmps) = b) (hv : b = true -> (execOp a.eval o).run P w = .ok (.value v) w) (h : wpList P ops Q rest (a.put o.dst (gv b v)) w) : wpList P ops Q (o :: rest) a w := by
 unfold wpList
 cases b with
 | false => rw [hw, if_neg (by decide)]; exact h
 | true =>
  rw [hw, if_pos rfl]
  refine .inl ?_
  unfold Oper.wp
  rw [hv rfl]
  exact h
theorem gd_plain (v : Value) (hg : o.guard = none) (hv : (execOp a.eval o).run P w = .ok (.value v) w) (h : wpList P ops Q rest (a.put o.dst v) w) : wpList P ops Q (o :: rest) a w :=
 gd_sym true v (by simp [Region.wanted, hg]) (fun _ => hv) h
theorem Yn (x : Operand) (ho : o.op = .move x) (hg : o.guard = none) (v : Value) (hx : a.eval x = v) (h : wpList P ops Q rest (a.put o.dst v) w) : wpList P ops Q (o :: rest) a w :=
 gd_plain v hg (by unfold execOp; simp only [ho, hx, Sem.run_pure]) h
theorem ZZ (b : Bool) (T : TypeId) (x : Operand) (f : Nat) (ho : o.op = .fieldAddr T x f) (p p' : Addr) (hw : Region.wanted o (yielded ops a.tmps) = b) (hx : b = true -> a.eval x = .pointer (some p)) (hr : (Instr.fieldAt T (.pointer (some p)) f).run P w = .ok (.pointer (some p')) w)
  (h : wpList P ops Q rest (a.put o.dst (gv b (.pointer (some p')))) w) : wpList P ops Q (o :: rest) a w :=
 gd_sym b _ hw (fun hb => by unfold execOp; simp only [ho, hx hb, Sem.run_bind, hr, Result.andThen_ok, Sem.run_pure]) h
theorem Zk (b : Bool) (T : TypeId) (x : Operand) (ho : o.op = .load T x) (p : Addr) (u : Value) (hw : Region.wanted o (yielded ops a.tmps) = b) (hx : b = true -> a.eval x = .pointer (some p)) (hr : (Instr.loadAt T (.pointer (some p))).run P w = .ok u w)
  (h : wpList P ops Q rest (a.put o.dst (gv b u)) w) : wpList P ops Q (o :: rest) a w :=
 gd_sym b _ hw (fun hb => by unfold execOp; simp only [ho, hx hb, Sem.run_bind, hr, Result.andThen_ok, Sem.run_pure]) h
theorem Y3 (b : Bool) (op : BinOp) (T : TypeId) (x y : Operand) (ty : TypeId) (ho : o.op = .binOp op T x y ty) (u v r : Value) (hw : Region.wanted o (yielded ops a.tmps) = b) (hx : b = true -> a.eval x = u) (hy : b = true -> a.eval y = v)
  (hq : (eqGuard op T x y u v).run P w = .ok () w) (hr : (binOp op T u v).run P w = .ok r w) (h : wpList P ops Q rest (a.put o.dst (gv b r)) w) : wpList P ops Q (o :: rest) a w :=
 gd_sym b _ hw (fun hb => by unfold execOp; simp only [ho, hx hb, hy hb, Sem.run_bind, hq, hr, Result.andThen_ok, Sem.run_pure]) h
theorem Xe (b : Bool) (x : Operand) (T e : TypeId) (ho : o.op = .call { callee := .builtin .len, args := #[x], argTypes := #[T] }) (hT : P.underlying T = some (.slice e)) (A : Option Addr) (n c : Nat) (hw : Region.wanted o (yielded ops a.tmps) = b) (hx : b = true -> a.eval x = .slice A n c)
  (h : wpList P ops Q rest (a.put o.dst (gv b (.int .i64 n))) w) : wpList P ops Q (o :: rest) a w :=
 gd_sym b _ hw (fun hb => by
  have hl : (Builtin.len_ #[T] o.type #[.slice A n c]).run P w = .ok (.int .i64 n) w := run_len_slice w T o.type A n c (by unfold Program.elem; rw [hT])
  unfold execOp
  simp only [ho, resolve, invoke, builtin, Sem.run_bind, Sem.run_pure, Result.andThen_ok, List.map_toArray, List.map_cons, List.map_nil, hx hb, hl]) h
theorem X8 (c x : Operand) (ho : o.op = .pick c x (.const (.bool false))) (hg : o.guard = none) (b e : Bool) (hc : a.eval c = .bool b) (hx : b = true -> a.eval x = .bool e) (h : wpList P ops Q rest (a.put o.dst (.bool (b && e))) w) : wpList P ops Q (o :: rest) a w := by
 refine gd_plain _ hg ?_ h
 unfold execOp
 cases b with
 | false => simp only [ho, hc, asBool, Sem.run_bind, Sem.run_pure, Result.andThen_ok, Bool.false_and]; rfl
 | true => simp only [ho, hc, hx rfl, asBool, Sem.run_bind, Sem.run_pure, Result.andThen_ok, if_true, Bool.true_and]
theorem Wh (c x : Operand) (ho : o.op = .pick c (.const (.bool true)) x) (hg : o.guard = none) (b e : Bool) (hc : a.eval c = .bool b) (hx : b = false -> a.eval x = .bool e) (h : wpList P ops Q rest (a.put o.dst (.bool (b || e))) w) : wpList P ops Q (o :: rest) a w := by
 refine gd_plain _ hg ?_ h
 unfold execOp
 cases b with
 | true => simp only [ho, hc, asBool, Sem.run_bind, Sem.run_pure, Result.andThen_ok, if_true, Bool.true_or]; rfl
 | false => simp only [ho, hc, hx rfl, asBool, Sem.run_bind, Sem.run_pure, Result.andThen_ok, Bool.false_or]; rfl
theorem row_take (ty : TypeId) (x : Operand) (ho : o.op = .load ty x) (g : Nat) (hx : a.eval x = .pointer (some ⟨g, 0, none⟩)) (t : TypeId) (cs : Array Value) (fr : Nat × Nat) (d : TypeDesc) (hg : w.heap[g]? = some (.cells cs t fr))
  (hu : P.underlying ty = some d) (hd : (match d with | .struct _ | .array _ _ => true | _ => false) = true) (hi : (P.info? ty).map (·.size) = some cs.size) : (execOp a.eval o).run P w = .ok (.value (.agg cs)) w := by
 unfold execOp
 simp only [ho, hx, Instr.loadAt, Instr.sureAddr, Sem.run_bind, Sem.run_pure, Result.andThen_ok, run_loadVar_row w g t ty cs fr d hg hu hd hi]
theorem Yj (op : BinOp) (T : TypeId) (x y : Operand) (k l : IntKind) (m n : Int) : (eqGuard op T x y (.int k m) (.int l n)).run P w = .ok () w := by
 cases op <;> rfl
theorem eqg_str (op : BinOp) (T : TypeId) (x y : Operand) (s t : ByteArray) : (eqGuard op T x y (.string s) (.string t)).run P w = .ok () w := by
 cases op <;> rfl
end
end Go.Proofs.Ytddopbbmgpnjjaa
