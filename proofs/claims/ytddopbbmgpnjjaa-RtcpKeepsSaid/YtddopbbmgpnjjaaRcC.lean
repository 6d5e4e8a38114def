/- rtcp.Packet.bare: what a kind names. -/
import Derived.Test.YtddopbbmgpnjjaaRcB
import Derived.BigRegion
import Derived.Laws.Rows
namespace Go.Proofs.Ytddopbbmgpnjjaa
open Go.RowKit
set_option linter.unusedSimpArgs false

/-- a packet with just what its kind names -/
def onlyP (p : Pk) : Pk where
  kind := p.kind
  sender := if p.kind = 4 then 0 else p.sender
  media := if 5 ≤ p.kind then p.media else 0
  ntp := if p.kind = 1 then p.ntp else 0
  rtp := if p.kind = 1 then p.rtp else 0
  pkts := if p.kind = 1 then p.pkts else 0
  octs := if p.kind = 1 then p.octs else 0
  reps := if p.kind = 1 ∨ p.kind = 2 then p.reps else []
  name := if p.kind = 3 then p.name else ⟨#[]⟩
  srcs := if p.kind = 4 then p.srcs else []
  seqs := if p.kind = 5 then p.seqs else []
  base := if p.kind = 6 then p.base else 0
  ref := if p.kind = 6 then p.ref else 0
  count := if p.kind = 6 then p.count else 0
  arrs := if p.kind = 6 then p.arrs else []
  wants := if p.kind = 8 then p.wants else []
abbrev nilV : Value := .slice none 0 0
def onlyV (p : Pk) (v : Vs) : Vs where
  r := if p.kind = 1 ∨ p.kind = 2 then v.r else nilV
  s := if p.kind = 4 then v.s else nilV
  q := if p.kind = 5 then v.q else nilV
  a := if p.kind = 6 then v.a else nilV
  w := if p.kind = 8 then v.w else nilV
abbrev zPk : Pk := ⟨0, 0, 0, 0, 0, 0, 0, [], ⟨#[]⟩, [], [], 0, 0, 0, [], []⟩
abbrev zVs : Vs := ⟨nilV, nilV, nilV, nilV, nilV⟩
/-- its cells -/
def onlyC (kind sender media ntp rtp pkts octs : Int) (rA : Option Addr) (rn rc : Nat) (name : ByteArray) (sA : Option Addr) (sn sc : Nat) (qA : Option Addr) (qn qc : Nat) (base ref count : Int) (aA : Option Addr) (an ac : Nat) (wA : Option Addr) (wn wc : Nat) : Array Value :=
  #[.int .i64 kind, .int .u32 (if kind = 4 then 0 else sender), .int .u32 (if 5 ≤ kind then media else 0), .int .u64 (if kind = 1 then ntp else 0), .int .u32 (if kind = 1 then rtp else 0), .int .u32 (if kind = 1 then pkts else 0), .int .u32 (if kind = 1 then octs else 0),
    .slice (if kind = 1 ∨ kind = 2 then rA else none) (if kind = 1 ∨ kind = 2 then rn else 0) (if kind = 1 ∨ kind = 2 then rc else 0), .string (if kind = 3 then name else ⟨#[]⟩), .slice (if kind = 4 then sA else none) (if kind = 4 then sn else 0) (if kind = 4 then sc else 0),
    .slice (if kind = 5 then qA else none) (if kind = 5 then qn else 0) (if kind = 5 then qc else 0), .int .u16 (if kind = 6 then base else 0), .int .u32 (if kind = 6 then ref else 0), .int .u8 (if kind = 6 then count else 0),
    .slice (if kind = 6 then aA else none) (if kind = 6 then an else 0) (if kind = 6 then ac else 0), .slice (if kind = 8 then wA else none) (if kind = 8 then wn else 0) (if kind = 8 then wc else 0)]
theorem onlyC_ways (k : Int) : k = 1 ∨ k = 2 ∨ k = 3 ∨ k = 4 ∨ k = 5 ∨ k = 6 ∨ k = 7 ∨ k = 8 ∨ (k ≠ 1 ∧ k ≠ 2 ∧ k ≠ 3 ∧ k ≠ 4 ∧ k ≠ 5 ∧ k ≠ 6 ∧ k ≠ 7 ∧ k ≠ 8) := by omega

theorem st51B : (Try.prog.underlying 51).any (fun d => match d with | .struct _ => true | _ => false) = true := by kernel_rfl
theorem st51D : ∃ fs, Try.prog.underlying 51 = some (.struct fs) := by
  have h := st51B
  cases e : Try.prog.underlying 51 with
  | none => rw [e] at h; cases h
  | some d => rw [e] at h; cases d <;> first | exact ⟨_, rfl⟩ | cases h
theorem st51I : (Try.prog.info? 51).map (·.size) = some 16 := by kernel_rfl
set_option maxRecDepth 100000 in
set_option maxHeartbeats 8000000 in
theorem only69 (I : Img) (M : List Res) (w : World) (kind sender media ntp rtp pkts octs : Int) (rA : Option Addr) (rn rc : Nat) (name : ByteArray) (sA : Option Addr) (sn sc : Nat) (qA : Option Addr) (qn qc : Nat) (base ref count : Int) (aA : Option Addr) (an ac : Nat) (wA : Option Addr) (wn wc : Nat) (hst : St I M w) :
    Calls Try.prog 69 #[.agg #[.int .i64 kind, .int .u32 sender, .int .u32 media, .int .u64 ntp, .int .u32 rtp, .int .u32 pkts, .int .u32 octs, .slice rA rn rc, .string name, .slice sA sn sc, .slice qA qn qc, .int .u16 base, .int .u32 ref, .int .u8 count, .slice aA an ac, .slice wA wn wc]] w (Ret I (fun u J M' => I = J ∧ u = .agg (onlyC kind sender media ntp rtp pkts octs rA rn rc name sA sn sc qA qn qc base ref count aA an ac wA wn wc) ∧ M' = M)) := by
  have hs3 := ((hst.alloc 51 #[.int .i64 kind, .int .u32 sender, .int .u32 media, .int .u64 ntp, .int .u32 rtp, .int .u32 pkts, .int .u32 octs, .slice rA rn rc, .string name, .slice sA sn sc, .slice qA qn qc, .int .u16 base, .int .u32 ref, .int .u8 count, .slice aA an ac, .slice wA wn wc]).alloc 51 (pkC zPk zVs)).alloc 51 #[.int .i64 kind, .int .u32 sender, .int .u32 0, .int .u64 0, .int .u32 0, .int .u32 0, .int .u32 0, .slice none 0 0, .string ⟨#[]⟩, .slice none 0 0, .slice none 0 0, .int .u16 0, .int .u32 0, .int .u8 0, .slice none 0 0, .slice none 0 0]
  simp only [World.size_alloc] at hs3
  obtain ⟨fs, hd⟩ := st51D
  clear hst
  go_enter Try.func69, Try.ntmps69
  go_upto_region 2 with fail
  obtain ⟨q1, hq1⟩ : ∃ q, q = w.heap.size := ⟨_, rfl⟩
  obtain ⟨q2, hq2⟩ : ∃ q, q = q1 + 1 := ⟨_, rfl⟩
  obtain ⟨q3, hq3⟩ : ∃ q, q = q1 + 1 + 1 := ⟨_, rfl⟩
  rw [← hq1, ← hq3, ← hq2] at hs3
  rw [← hq1, ← hq3, ← hq2]
  generalize World.alloc (World.alloc (World.alloc w _) _) _ = W at hs3 ⊢
  have hne : q1 ≠ q3 := by omega
  have hne' : q3 ≠ q1 := by omega
  clear hq1 hq2 hq3
  obtain ⟨hc1, hf1, hl1⟩ := Blk.all (hs3.at 2 rfl)
  obtain ⟨hc3, hf3, hl3⟩ := Blk.all (hs3.at 0 rfl)
  have H3 := Lib.hid hs3
  clear hs3
  rcases onlyC_ways kind with rfl | rfl | rfl | rfl | rfl | rfl | rfl | rfl | ⟨k1, k2, k3, k4, k5, k6, k7, k8⟩
  · skip
    go_upto_region 6 with fail
    go_region
    have hs4 := (((((H3.out.set 3 (.int .u64 ntp)).set 4 (.int .u32 rtp)).set 5 (.int .u32 pkts)).set 6 (.int .u32 octs)).set 7 (.slice rA rn rc)).drew
    generalize World.drew _ = W4 at hs4 ⊢
    have hs5 : St I (bk q3 51 #[.int .i64 1, .int .u32 sender, .int .u32 0, .int .u64 ntp, .int .u32 rtp, .int .u32 pkts, .int .u32 octs, .slice rA rn rc, .string ⟨#[]⟩, .slice none 0 0, .slice none 0 0, .int .u16 0, .int .u32 0, .int .u8 0, .slice none 0 0, .slice none 0 0] :: bk q2 51 (pkC zPk zVs) :: bk q1 51 #[.int .i64 1, .int .u32 sender, .int .u32 media, .int .u64 ntp, .int .u32 rtp, .int .u32 pkts, .int .u32 octs, .slice rA rn rc, .string name, .slice sA sn sc, .slice qA qn qc, .int .u16 base, .int .u32 ref, .int .u8 count, .slice aA an ac, .slice wA wn wc] :: M) W4 := hs4
    clear hs4 H3 hc1 hf1 hl1 hc3 hf3 hl3
    have hb3 : Blk W4 q3 51 #[.int .i64 1, .int .u32 sender, .int .u32 0, .int .u64 ntp, .int .u32 rtp, .int .u32 pkts, .int .u32 octs, .slice rA rn rc, .string ⟨#[]⟩, .slice none 0 0, .slice none 0 0, .int .u16 0, .int .u32 0, .int .u8 0, .slice none 0 0, .slice none 0 0] := hs5.at 0 rfl
    have hb2 : Blk W4 q2 51 (pkC zPk zVs) := hs5.at 1 rfl
    have hone : (#[.int .i64 1, .int .u32 sender, .int .u32 0, .int .u64 ntp, .int .u32 rtp, .int .u32 pkts, .int .u32 octs, .slice rA rn rc, .string ⟨#[]⟩, .slice none 0 0, .slice none 0 0, .int .u16 0, .int .u32 0, .int .u8 0, .slice none 0 0, .slice none 0 0] : Array Value).all (·.oneCell') = true := by simp [Value.oneCell']
    have HS6 := Lib.hid (hs5.setR1 #[.int .i64 1, .int .u32 sender, .int .u32 0, .int .u64 ntp, .int .u32 rtp, .int .u32 pkts, .int .u32 octs, .slice rA rn rc, .string ⟨#[]⟩, .slice none 0 0, .slice none 0 0, .int .u16 0, .int .u32 0, .int .u8 0, .slice none 0 0, .slice none 0 0])
    clear hs5
    go_wp2_with (first | refine wpList_load_row rfl 51 (.tmp 3) rfl q3 rfl 51 _ (0, 0) _ hb3 hd rfl st51I ?_ | refine wpList_store_row rfl 51 (.tmp 2) (.tmp 74) rfl q2 #[.int .i64 1, .int .u32 sender, .int .u32 0, .int .u64 ntp, .int .u32 rtp, .int .u32 pkts, .int .u32 octs, .slice rA rn rc, .string ⟨#[]⟩, .slice none 0 0, .slice none 0 0, .int .u16 0, .int .u32 0, .int .u8 0, .slice none 0 0, .slice none 0 0] rfl rfl 51 _ hb2 st51I rfl hone ?_)
    refine bodyPost_ret (results_cell_row (p := 2) Try.results69 _ _ q2 51 _ (0, 0) _ rfl (HS6.out.at 1 rfl) hd rfl st51I) rfl ?_
    exact Ret.mk (.refl I) HS6.out.drop.drop.drop ⟨rfl, by simp [onlyC], rfl⟩
  · skip
    go_upto_region 19 with fail
    have hs4 := (H3.out.set 7 (.slice rA rn rc))
    generalize World.setCell W _ _ = W4 at hs4 ⊢
    have hs5 : St I (bk q3 51 #[.int .i64 2, .int .u32 sender, .int .u32 0, .int .u64 0, .int .u32 0, .int .u32 0, .int .u32 0, .slice rA rn rc, .string ⟨#[]⟩, .slice none 0 0, .slice none 0 0, .int .u16 0, .int .u32 0, .int .u8 0, .slice none 0 0, .slice none 0 0] :: bk q2 51 (pkC zPk zVs) :: bk q1 51 #[.int .i64 2, .int .u32 sender, .int .u32 media, .int .u64 ntp, .int .u32 rtp, .int .u32 pkts, .int .u32 octs, .slice rA rn rc, .string name, .slice sA sn sc, .slice qA qn qc, .int .u16 base, .int .u32 ref, .int .u8 count, .slice aA an ac, .slice wA wn wc] :: M) W4 := hs4
    clear hs4 H3 hc1 hf1 hl1 hc3 hf3 hl3
    have hb3 : Blk W4 q3 51 #[.int .i64 2, .int .u32 sender, .int .u32 0, .int .u64 0, .int .u32 0, .int .u32 0, .int .u32 0, .slice rA rn rc, .string ⟨#[]⟩, .slice none 0 0, .slice none 0 0, .int .u16 0, .int .u32 0, .int .u8 0, .slice none 0 0, .slice none 0 0] := hs5.at 0 rfl
    have hb2 : Blk W4 q2 51 (pkC zPk zVs) := hs5.at 1 rfl
    have hone : (#[.int .i64 2, .int .u32 sender, .int .u32 0, .int .u64 0, .int .u32 0, .int .u32 0, .int .u32 0, .slice rA rn rc, .string ⟨#[]⟩, .slice none 0 0, .slice none 0 0, .int .u16 0, .int .u32 0, .int .u8 0, .slice none 0 0, .slice none 0 0] : Array Value).all (·.oneCell') = true := by simp [Value.oneCell']
    have HS6 := Lib.hid (hs5.setR1 #[.int .i64 2, .int .u32 sender, .int .u32 0, .int .u64 0, .int .u32 0, .int .u32 0, .int .u32 0, .slice rA rn rc, .string ⟨#[]⟩, .slice none 0 0, .slice none 0 0, .int .u16 0, .int .u32 0, .int .u8 0, .slice none 0 0, .slice none 0 0])
    clear hs5
    go_wp2_with (first | refine wpList_load_row rfl 51 (.tmp 3) rfl q3 rfl 51 _ (0, 0) _ hb3 hd rfl st51I ?_ | refine wpList_store_row rfl 51 (.tmp 2) (.tmp 74) rfl q2 #[.int .i64 2, .int .u32 sender, .int .u32 0, .int .u64 0, .int .u32 0, .int .u32 0, .int .u32 0, .slice rA rn rc, .string ⟨#[]⟩, .slice none 0 0, .slice none 0 0, .int .u16 0, .int .u32 0, .int .u8 0, .slice none 0 0, .slice none 0 0] rfl rfl 51 _ hb2 st51I rfl hone ?_)
    refine bodyPost_ret (results_cell_row (p := 2) Try.results69 _ _ q2 51 _ (0, 0) _ rfl (HS6.out.at 1 rfl) hd rfl st51I) rfl ?_
    exact Ret.mk (.refl I) HS6.out.drop.drop.drop ⟨rfl, by simp [onlyC], rfl⟩
  · skip
    go_upto_region 19 with fail
    have hs4 := (H3.out.set 8 (.string name))
    generalize World.setCell W _ _ = W4 at hs4 ⊢
    have hs5 : St I (bk q3 51 #[.int .i64 3, .int .u32 sender, .int .u32 0, .int .u64 0, .int .u32 0, .int .u32 0, .int .u32 0, .slice none 0 0, .string name, .slice none 0 0, .slice none 0 0, .int .u16 0, .int .u32 0, .int .u8 0, .slice none 0 0, .slice none 0 0] :: bk q2 51 (pkC zPk zVs) :: bk q1 51 #[.int .i64 3, .int .u32 sender, .int .u32 media, .int .u64 ntp, .int .u32 rtp, .int .u32 pkts, .int .u32 octs, .slice rA rn rc, .string name, .slice sA sn sc, .slice qA qn qc, .int .u16 base, .int .u32 ref, .int .u8 count, .slice aA an ac, .slice wA wn wc] :: M) W4 := hs4
    clear hs4 H3 hc1 hf1 hl1 hc3 hf3 hl3
    have hb3 : Blk W4 q3 51 #[.int .i64 3, .int .u32 sender, .int .u32 0, .int .u64 0, .int .u32 0, .int .u32 0, .int .u32 0, .slice none 0 0, .string name, .slice none 0 0, .slice none 0 0, .int .u16 0, .int .u32 0, .int .u8 0, .slice none 0 0, .slice none 0 0] := hs5.at 0 rfl
    have hb2 : Blk W4 q2 51 (pkC zPk zVs) := hs5.at 1 rfl
    have hone : (#[.int .i64 3, .int .u32 sender, .int .u32 0, .int .u64 0, .int .u32 0, .int .u32 0, .int .u32 0, .slice none 0 0, .string name, .slice none 0 0, .slice none 0 0, .int .u16 0, .int .u32 0, .int .u8 0, .slice none 0 0, .slice none 0 0] : Array Value).all (·.oneCell') = true := by simp [Value.oneCell']
    have HS6 := Lib.hid (hs5.setR1 #[.int .i64 3, .int .u32 sender, .int .u32 0, .int .u64 0, .int .u32 0, .int .u32 0, .int .u32 0, .slice none 0 0, .string name, .slice none 0 0, .slice none 0 0, .int .u16 0, .int .u32 0, .int .u8 0, .slice none 0 0, .slice none 0 0])
    clear hs5
    go_wp2_with (first | refine wpList_load_row rfl 51 (.tmp 3) rfl q3 rfl 51 _ (0, 0) _ hb3 hd rfl st51I ?_ | refine wpList_store_row rfl 51 (.tmp 2) (.tmp 74) rfl q2 #[.int .i64 3, .int .u32 sender, .int .u32 0, .int .u64 0, .int .u32 0, .int .u32 0, .int .u32 0, .slice none 0 0, .string name, .slice none 0 0, .slice none 0 0, .int .u16 0, .int .u32 0, .int .u8 0, .slice none 0 0, .slice none 0 0] rfl rfl 51 _ hb2 st51I rfl hone ?_)
    refine bodyPost_ret (results_cell_row (p := 2) Try.results69 _ _ q2 51 _ (0, 0) _ rfl (HS6.out.at 1 rfl) hd rfl st51I) rfl ?_
    exact Ret.mk (.refl I) HS6.out.drop.drop.drop ⟨rfl, by simp [onlyC], rfl⟩
  · skip
    go_upto_region 12 with fail
    go_region
    have hs4 := ((H3.out.set 1 (.int .u32 0)).set 9 (.slice sA sn sc)).drew
    generalize World.drew _ = W4 at hs4 ⊢
    have hs5 : St I (bk q3 51 #[.int .i64 4, .int .u32 0, .int .u32 0, .int .u64 0, .int .u32 0, .int .u32 0, .int .u32 0, .slice none 0 0, .string ⟨#[]⟩, .slice sA sn sc, .slice none 0 0, .int .u16 0, .int .u32 0, .int .u8 0, .slice none 0 0, .slice none 0 0] :: bk q2 51 (pkC zPk zVs) :: bk q1 51 #[.int .i64 4, .int .u32 sender, .int .u32 media, .int .u64 ntp, .int .u32 rtp, .int .u32 pkts, .int .u32 octs, .slice rA rn rc, .string name, .slice sA sn sc, .slice qA qn qc, .int .u16 base, .int .u32 ref, .int .u8 count, .slice aA an ac, .slice wA wn wc] :: M) W4 := hs4
    clear hs4 H3 hc1 hf1 hl1 hc3 hf3 hl3
    have hb3 : Blk W4 q3 51 #[.int .i64 4, .int .u32 0, .int .u32 0, .int .u64 0, .int .u32 0, .int .u32 0, .int .u32 0, .slice none 0 0, .string ⟨#[]⟩, .slice sA sn sc, .slice none 0 0, .int .u16 0, .int .u32 0, .int .u8 0, .slice none 0 0, .slice none 0 0] := hs5.at 0 rfl
    have hb2 : Blk W4 q2 51 (pkC zPk zVs) := hs5.at 1 rfl
    have hone : (#[.int .i64 4, .int .u32 0, .int .u32 0, .int .u64 0, .int .u32 0, .int .u32 0, .int .u32 0, .slice none 0 0, .string ⟨#[]⟩, .slice sA sn sc, .slice none 0 0, .int .u16 0, .int .u32 0, .int .u8 0, .slice none 0 0, .slice none 0 0] : Array Value).all (·.oneCell') = true := by simp [Value.oneCell']
    have HS6 := Lib.hid (hs5.setR1 #[.int .i64 4, .int .u32 0, .int .u32 0, .int .u64 0, .int .u32 0, .int .u32 0, .int .u32 0, .slice none 0 0, .string ⟨#[]⟩, .slice sA sn sc, .slice none 0 0, .int .u16 0, .int .u32 0, .int .u8 0, .slice none 0 0, .slice none 0 0])
    clear hs5
    go_wp2_with (first | refine wpList_load_row rfl 51 (.tmp 3) rfl q3 rfl 51 _ (0, 0) _ hb3 hd rfl st51I ?_ | refine wpList_store_row rfl 51 (.tmp 2) (.tmp 74) rfl q2 #[.int .i64 4, .int .u32 0, .int .u32 0, .int .u64 0, .int .u32 0, .int .u32 0, .int .u32 0, .slice none 0 0, .string ⟨#[]⟩, .slice sA sn sc, .slice none 0 0, .int .u16 0, .int .u32 0, .int .u8 0, .slice none 0 0, .slice none 0 0] rfl rfl 51 _ hb2 st51I rfl hone ?_)
    refine bodyPost_ret (results_cell_row (p := 2) Try.results69 _ _ q2 51 _ (0, 0) _ rfl (HS6.out.at 1 rfl) hd rfl st51I) rfl ?_
    exact Ret.mk (.refl I) HS6.out.drop.drop.drop ⟨rfl, by simp [onlyC], rfl⟩
  · skip
    go_upto_region 19 with fail
    have hs4 := ((H3.out.set 2 (.int .u32 media)).set 10 (.slice qA qn qc))
    generalize World.setCell (World.setCell W _ _) _ _ = W4 at hs4 ⊢
    have hs5 : St I (bk q3 51 #[.int .i64 5, .int .u32 sender, .int .u32 media, .int .u64 0, .int .u32 0, .int .u32 0, .int .u32 0, .slice none 0 0, .string ⟨#[]⟩, .slice none 0 0, .slice qA qn qc, .int .u16 0, .int .u32 0, .int .u8 0, .slice none 0 0, .slice none 0 0] :: bk q2 51 (pkC zPk zVs) :: bk q1 51 #[.int .i64 5, .int .u32 sender, .int .u32 media, .int .u64 ntp, .int .u32 rtp, .int .u32 pkts, .int .u32 octs, .slice rA rn rc, .string name, .slice sA sn sc, .slice qA qn qc, .int .u16 base, .int .u32 ref, .int .u8 count, .slice aA an ac, .slice wA wn wc] :: M) W4 := hs4
    clear hs4 H3 hc1 hf1 hl1 hc3 hf3 hl3
    have hb3 : Blk W4 q3 51 #[.int .i64 5, .int .u32 sender, .int .u32 media, .int .u64 0, .int .u32 0, .int .u32 0, .int .u32 0, .slice none 0 0, .string ⟨#[]⟩, .slice none 0 0, .slice qA qn qc, .int .u16 0, .int .u32 0, .int .u8 0, .slice none 0 0, .slice none 0 0] := hs5.at 0 rfl
    have hb2 : Blk W4 q2 51 (pkC zPk zVs) := hs5.at 1 rfl
    have hone : (#[.int .i64 5, .int .u32 sender, .int .u32 media, .int .u64 0, .int .u32 0, .int .u32 0, .int .u32 0, .slice none 0 0, .string ⟨#[]⟩, .slice none 0 0, .slice qA qn qc, .int .u16 0, .int .u32 0, .int .u8 0, .slice none 0 0, .slice none 0 0] : Array Value).all (·.oneCell') = true := by simp [Value.oneCell']
    have HS6 := Lib.hid (hs5.setR1 #[.int .i64 5, .int .u32 sender, .int .u32 media, .int .u64 0, .int .u32 0, .int .u32 0, .int .u32 0, .slice none 0 0, .string ⟨#[]⟩, .slice none 0 0, .slice qA qn qc, .int .u16 0, .int .u32 0, .int .u8 0, .slice none 0 0, .slice none 0 0])
    clear hs5
    go_wp2_with (first | refine wpList_load_row rfl 51 (.tmp 3) rfl q3 rfl 51 _ (0, 0) _ hb3 hd rfl st51I ?_ | refine wpList_store_row rfl 51 (.tmp 2) (.tmp 74) rfl q2 #[.int .i64 5, .int .u32 sender, .int .u32 media, .int .u64 0, .int .u32 0, .int .u32 0, .int .u32 0, .slice none 0 0, .string ⟨#[]⟩, .slice none 0 0, .slice qA qn qc, .int .u16 0, .int .u32 0, .int .u8 0, .slice none 0 0, .slice none 0 0] rfl rfl 51 _ hb2 st51I rfl hone ?_)
    refine bodyPost_ret (results_cell_row (p := 2) Try.results69 _ _ q2 51 _ (0, 0) _ rfl (HS6.out.at 1 rfl) hd rfl st51I) rfl ?_
    exact Ret.mk (.refl I) HS6.out.drop.drop.drop ⟨rfl, by simp [onlyC], rfl⟩
  · skip
    go_upto_region 16 with fail
    go_region
    have hs4 := (((((H3.out.set 2 (.int .u32 media)).set 11 (.int .u16 base)).set 12 (.int .u32 ref)).set 13 (.int .u8 count)).set 14 (.slice aA an ac)).drew
    generalize World.drew _ = W4 at hs4 ⊢
    have hs5 : St I (bk q3 51 #[.int .i64 6, .int .u32 sender, .int .u32 media, .int .u64 0, .int .u32 0, .int .u32 0, .int .u32 0, .slice none 0 0, .string ⟨#[]⟩, .slice none 0 0, .slice none 0 0, .int .u16 base, .int .u32 ref, .int .u8 count, .slice aA an ac, .slice none 0 0] :: bk q2 51 (pkC zPk zVs) :: bk q1 51 #[.int .i64 6, .int .u32 sender, .int .u32 media, .int .u64 ntp, .int .u32 rtp, .int .u32 pkts, .int .u32 octs, .slice rA rn rc, .string name, .slice sA sn sc, .slice qA qn qc, .int .u16 base, .int .u32 ref, .int .u8 count, .slice aA an ac, .slice wA wn wc] :: M) W4 := hs4
    clear hs4 H3 hc1 hf1 hl1 hc3 hf3 hl3
    have hb3 : Blk W4 q3 51 #[.int .i64 6, .int .u32 sender, .int .u32 media, .int .u64 0, .int .u32 0, .int .u32 0, .int .u32 0, .slice none 0 0, .string ⟨#[]⟩, .slice none 0 0, .slice none 0 0, .int .u16 base, .int .u32 ref, .int .u8 count, .slice aA an ac, .slice none 0 0] := hs5.at 0 rfl
    have hb2 : Blk W4 q2 51 (pkC zPk zVs) := hs5.at 1 rfl
    have hone : (#[.int .i64 6, .int .u32 sender, .int .u32 media, .int .u64 0, .int .u32 0, .int .u32 0, .int .u32 0, .slice none 0 0, .string ⟨#[]⟩, .slice none 0 0, .slice none 0 0, .int .u16 base, .int .u32 ref, .int .u8 count, .slice aA an ac, .slice none 0 0] : Array Value).all (·.oneCell') = true := by simp [Value.oneCell']
    have HS6 := Lib.hid (hs5.setR1 #[.int .i64 6, .int .u32 sender, .int .u32 media, .int .u64 0, .int .u32 0, .int .u32 0, .int .u32 0, .slice none 0 0, .string ⟨#[]⟩, .slice none 0 0, .slice none 0 0, .int .u16 base, .int .u32 ref, .int .u8 count, .slice aA an ac, .slice none 0 0])
    clear hs5
    go_wp2_with (first | refine wpList_load_row rfl 51 (.tmp 3) rfl q3 rfl 51 _ (0, 0) _ hb3 hd rfl st51I ?_ | refine wpList_store_row rfl 51 (.tmp 2) (.tmp 74) rfl q2 #[.int .i64 6, .int .u32 sender, .int .u32 media, .int .u64 0, .int .u32 0, .int .u32 0, .int .u32 0, .slice none 0 0, .string ⟨#[]⟩, .slice none 0 0, .slice none 0 0, .int .u16 base, .int .u32 ref, .int .u8 count, .slice aA an ac, .slice none 0 0] rfl rfl 51 _ hb2 st51I rfl hone ?_)
    refine bodyPost_ret (results_cell_row (p := 2) Try.results69 _ _ q2 51 _ (0, 0) _ rfl (HS6.out.at 1 rfl) hd rfl st51I) rfl ?_
    exact Ret.mk (.refl I) HS6.out.drop.drop.drop ⟨rfl, by simp [onlyC], rfl⟩
  · skip
    go_upto_region 19 with fail
    have hs4 := (H3.out.set 2 (.int .u32 media))
    generalize World.setCell W _ _ = W4 at hs4 ⊢
    have hs5 : St I (bk q3 51 #[.int .i64 7, .int .u32 sender, .int .u32 media, .int .u64 0, .int .u32 0, .int .u32 0, .int .u32 0, .slice none 0 0, .string ⟨#[]⟩, .slice none 0 0, .slice none 0 0, .int .u16 0, .int .u32 0, .int .u8 0, .slice none 0 0, .slice none 0 0] :: bk q2 51 (pkC zPk zVs) :: bk q1 51 #[.int .i64 7, .int .u32 sender, .int .u32 media, .int .u64 ntp, .int .u32 rtp, .int .u32 pkts, .int .u32 octs, .slice rA rn rc, .string name, .slice sA sn sc, .slice qA qn qc, .int .u16 base, .int .u32 ref, .int .u8 count, .slice aA an ac, .slice wA wn wc] :: M) W4 := hs4
    clear hs4 H3 hc1 hf1 hl1 hc3 hf3 hl3
    have hb3 : Blk W4 q3 51 #[.int .i64 7, .int .u32 sender, .int .u32 media, .int .u64 0, .int .u32 0, .int .u32 0, .int .u32 0, .slice none 0 0, .string ⟨#[]⟩, .slice none 0 0, .slice none 0 0, .int .u16 0, .int .u32 0, .int .u8 0, .slice none 0 0, .slice none 0 0] := hs5.at 0 rfl
    have hb2 : Blk W4 q2 51 (pkC zPk zVs) := hs5.at 1 rfl
    have hone : (#[.int .i64 7, .int .u32 sender, .int .u32 media, .int .u64 0, .int .u32 0, .int .u32 0, .int .u32 0, .slice none 0 0, .string ⟨#[]⟩, .slice none 0 0, .slice none 0 0, .int .u16 0, .int .u32 0, .int .u8 0, .slice none 0 0, .slice none 0 0] : Array Value).all (·.oneCell') = true := by simp [Value.oneCell']
    have HS6 := Lib.hid (hs5.setR1 #[.int .i64 7, .int .u32 sender, .int .u32 media, .int .u64 0, .int .u32 0, .int .u32 0, .int .u32 0, .slice none 0 0, .string ⟨#[]⟩, .slice none 0 0, .slice none 0 0, .int .u16 0, .int .u32 0, .int .u8 0, .slice none 0 0, .slice none 0 0])
    clear hs5
    go_wp2_with (first | refine wpList_load_row rfl 51 (.tmp 3) rfl q3 rfl 51 _ (0, 0) _ hb3 hd rfl st51I ?_ | refine wpList_store_row rfl 51 (.tmp 2) (.tmp 74) rfl q2 #[.int .i64 7, .int .u32 sender, .int .u32 media, .int .u64 0, .int .u32 0, .int .u32 0, .int .u32 0, .slice none 0 0, .string ⟨#[]⟩, .slice none 0 0, .slice none 0 0, .int .u16 0, .int .u32 0, .int .u8 0, .slice none 0 0, .slice none 0 0] rfl rfl 51 _ hb2 st51I rfl hone ?_)
    refine bodyPost_ret (results_cell_row (p := 2) Try.results69 _ _ q2 51 _ (0, 0) _ rfl (HS6.out.at 1 rfl) hd rfl st51I) rfl ?_
    exact Ret.mk (.refl I) HS6.out.drop.drop.drop ⟨rfl, by simp [onlyC], rfl⟩
  · skip
    go_upto_region 19 with fail
    have hs4 := ((H3.out.set 2 (.int .u32 media)).set 15 (.slice wA wn wc))
    generalize World.setCell (World.setCell W _ _) _ _ = W4 at hs4 ⊢
    have hs5 : St I (bk q3 51 #[.int .i64 8, .int .u32 sender, .int .u32 media, .int .u64 0, .int .u32 0, .int .u32 0, .int .u32 0, .slice none 0 0, .string ⟨#[]⟩, .slice none 0 0, .slice none 0 0, .int .u16 0, .int .u32 0, .int .u8 0, .slice none 0 0, .slice wA wn wc] :: bk q2 51 (pkC zPk zVs) :: bk q1 51 #[.int .i64 8, .int .u32 sender, .int .u32 media, .int .u64 ntp, .int .u32 rtp, .int .u32 pkts, .int .u32 octs, .slice rA rn rc, .string name, .slice sA sn sc, .slice qA qn qc, .int .u16 base, .int .u32 ref, .int .u8 count, .slice aA an ac, .slice wA wn wc] :: M) W4 := hs4
    clear hs4 H3 hc1 hf1 hl1 hc3 hf3 hl3
    have hb3 : Blk W4 q3 51 #[.int .i64 8, .int .u32 sender, .int .u32 media, .int .u64 0, .int .u32 0, .int .u32 0, .int .u32 0, .slice none 0 0, .string ⟨#[]⟩, .slice none 0 0, .slice none 0 0, .int .u16 0, .int .u32 0, .int .u8 0, .slice none 0 0, .slice wA wn wc] := hs5.at 0 rfl
    have hb2 : Blk W4 q2 51 (pkC zPk zVs) := hs5.at 1 rfl
    have hone : (#[.int .i64 8, .int .u32 sender, .int .u32 media, .int .u64 0, .int .u32 0, .int .u32 0, .int .u32 0, .slice none 0 0, .string ⟨#[]⟩, .slice none 0 0, .slice none 0 0, .int .u16 0, .int .u32 0, .int .u8 0, .slice none 0 0, .slice wA wn wc] : Array Value).all (·.oneCell') = true := by simp [Value.oneCell']
    have HS6 := Lib.hid (hs5.setR1 #[.int .i64 8, .int .u32 sender, .int .u32 media, .int .u64 0, .int .u32 0, .int .u32 0, .int .u32 0, .slice none 0 0, .string ⟨#[]⟩, .slice none 0 0, .slice none 0 0, .int .u16 0, .int .u32 0, .int .u8 0, .slice none 0 0, .slice wA wn wc])
    clear hs5
    go_wp2_with (first | refine wpList_load_row rfl 51 (.tmp 3) rfl q3 rfl 51 _ (0, 0) _ hb3 hd rfl st51I ?_ | refine wpList_store_row rfl 51 (.tmp 2) (.tmp 74) rfl q2 #[.int .i64 8, .int .u32 sender, .int .u32 media, .int .u64 0, .int .u32 0, .int .u32 0, .int .u32 0, .slice none 0 0, .string ⟨#[]⟩, .slice none 0 0, .slice none 0 0, .int .u16 0, .int .u32 0, .int .u8 0, .slice none 0 0, .slice wA wn wc] rfl rfl 51 _ hb2 st51I rfl hone ?_)
    refine bodyPost_ret (results_cell_row (p := 2) Try.results69 _ _ q2 51 _ (0, 0) _ rfl (HS6.out.at 1 rfl) hd rfl st51I) rfl ?_
    exact Ret.mk (.refl I) HS6.out.drop.drop.drop ⟨rfl, by simp [onlyC], rfl⟩
  · skip
    have g1 : (kind == 1) = false := beq_eq_false_iff_ne.2 k1
    have g2 : (kind == 2) = false := beq_eq_false_iff_ne.2 k2
    have g3 : (kind == 3) = false := beq_eq_false_iff_ne.2 k3
    have g4 : (kind == 4) = false := beq_eq_false_iff_ne.2 k4
    have g5 : (kind == 5) = false := beq_eq_false_iff_ne.2 k5
    have g6 : (kind == 6) = false := beq_eq_false_iff_ne.2 k6
    have g7 : (kind == 7) = false := beq_eq_false_iff_ne.2 k7
    have g8 : (kind == 8) = false := beq_eq_false_iff_ne.2 k8
    by_cases k9 : 5 ≤ kind
    · have HK9 := Lib.hid k9
      go_upto_region 19 with fail
      have hs4 := (H3.out.set 2 (.int .u32 media))
      generalize World.setCell W _ _ = W4 at hs4 ⊢
      have hs5 : St I (bk q3 51 #[.int .i64 kind, .int .u32 sender, .int .u32 media, .int .u64 0, .int .u32 0, .int .u32 0, .int .u32 0, .slice none 0 0, .string ⟨#[]⟩, .slice none 0 0, .slice none 0 0, .int .u16 0, .int .u32 0, .int .u8 0, .slice none 0 0, .slice none 0 0] :: bk q2 51 (pkC zPk zVs) :: bk q1 51 #[.int .i64 kind, .int .u32 sender, .int .u32 media, .int .u64 ntp, .int .u32 rtp, .int .u32 pkts, .int .u32 octs, .slice rA rn rc, .string name, .slice sA sn sc, .slice qA qn qc, .int .u16 base, .int .u32 ref, .int .u8 count, .slice aA an ac, .slice wA wn wc] :: M) W4 := hs4
      clear hs4 H3 hc1 hf1 hl1 hc3 hf3 hl3
      have hb3 : Blk W4 q3 51 #[.int .i64 kind, .int .u32 sender, .int .u32 media, .int .u64 0, .int .u32 0, .int .u32 0, .int .u32 0, .slice none 0 0, .string ⟨#[]⟩, .slice none 0 0, .slice none 0 0, .int .u16 0, .int .u32 0, .int .u8 0, .slice none 0 0, .slice none 0 0] := hs5.at 0 rfl
      have hb2 : Blk W4 q2 51 (pkC zPk zVs) := hs5.at 1 rfl
      have hone : (#[.int .i64 kind, .int .u32 sender, .int .u32 media, .int .u64 0, .int .u32 0, .int .u32 0, .int .u32 0, .slice none 0 0, .string ⟨#[]⟩, .slice none 0 0, .slice none 0 0, .int .u16 0, .int .u32 0, .int .u8 0, .slice none 0 0, .slice none 0 0] : Array Value).all (·.oneCell') = true := by simp [Value.oneCell']
      have HS6 := Lib.hid (hs5.setR1 #[.int .i64 kind, .int .u32 sender, .int .u32 media, .int .u64 0, .int .u32 0, .int .u32 0, .int .u32 0, .slice none 0 0, .string ⟨#[]⟩, .slice none 0 0, .slice none 0 0, .int .u16 0, .int .u32 0, .int .u8 0, .slice none 0 0, .slice none 0 0])
      clear hs5
      go_wp2_with (first | refine wpList_load_row rfl 51 (.tmp 3) rfl q3 rfl 51 _ (0, 0) _ hb3 hd rfl st51I ?_ | refine wpList_store_row rfl 51 (.tmp 2) (.tmp 74) rfl q2 #[.int .i64 kind, .int .u32 sender, .int .u32 media, .int .u64 0, .int .u32 0, .int .u32 0, .int .u32 0, .slice none 0 0, .string ⟨#[]⟩, .slice none 0 0, .slice none 0 0, .int .u16 0, .int .u32 0, .int .u8 0, .slice none 0 0, .slice none 0 0] rfl rfl 51 _ hb2 st51I rfl hone ?_)
      refine bodyPost_ret (results_cell_row (p := 2) Try.results69 _ _ q2 51 _ (0, 0) _ rfl (HS6.out.at 1 rfl) hd rfl st51I) rfl ?_
      exact Ret.mk (.refl I) HS6.out.drop.drop.drop ⟨rfl, by simp [onlyC, k1, k2, k3, k4, k5, k6, k7, k8, HK9.out], rfl⟩
    · have HK9 := Lib.hid k9
      have k10 : decide (5 ≤ kind) = false := decide_eq_false k9
      go_upto_region 19 with fail
      have hs4 := H3.out
      obtain ⟨W4, hW4⟩ : ∃ W4, W4 = W := ⟨_, rfl⟩
      rw [← hW4] at hs4 ⊢
      clear hW4
      have hs5 : St I (bk q3 51 #[.int .i64 kind, .int .u32 sender, .int .u32 0, .int .u64 0, .int .u32 0, .int .u32 0, .int .u32 0, .slice none 0 0, .string ⟨#[]⟩, .slice none 0 0, .slice none 0 0, .int .u16 0, .int .u32 0, .int .u8 0, .slice none 0 0, .slice none 0 0] :: bk q2 51 (pkC zPk zVs) :: bk q1 51 #[.int .i64 kind, .int .u32 sender, .int .u32 media, .int .u64 ntp, .int .u32 rtp, .int .u32 pkts, .int .u32 octs, .slice rA rn rc, .string name, .slice sA sn sc, .slice qA qn qc, .int .u16 base, .int .u32 ref, .int .u8 count, .slice aA an ac, .slice wA wn wc] :: M) W4 := hs4
      clear hs4 H3 hc1 hf1 hl1 hc3 hf3 hl3
      have hb3 : Blk W4 q3 51 #[.int .i64 kind, .int .u32 sender, .int .u32 0, .int .u64 0, .int .u32 0, .int .u32 0, .int .u32 0, .slice none 0 0, .string ⟨#[]⟩, .slice none 0 0, .slice none 0 0, .int .u16 0, .int .u32 0, .int .u8 0, .slice none 0 0, .slice none 0 0] := hs5.at 0 rfl
      have hb2 : Blk W4 q2 51 (pkC zPk zVs) := hs5.at 1 rfl
      have hone : (#[.int .i64 kind, .int .u32 sender, .int .u32 0, .int .u64 0, .int .u32 0, .int .u32 0, .int .u32 0, .slice none 0 0, .string ⟨#[]⟩, .slice none 0 0, .slice none 0 0, .int .u16 0, .int .u32 0, .int .u8 0, .slice none 0 0, .slice none 0 0] : Array Value).all (·.oneCell') = true := by simp [Value.oneCell']
      have HS6 := Lib.hid (hs5.setR1 #[.int .i64 kind, .int .u32 sender, .int .u32 0, .int .u64 0, .int .u32 0, .int .u32 0, .int .u32 0, .slice none 0 0, .string ⟨#[]⟩, .slice none 0 0, .slice none 0 0, .int .u16 0, .int .u32 0, .int .u8 0, .slice none 0 0, .slice none 0 0])
      clear hs5
      go_wp2_with (first | refine wpList_load_row rfl 51 (.tmp 3) rfl q3 rfl 51 _ (0, 0) _ hb3 hd rfl st51I ?_ | refine wpList_store_row rfl 51 (.tmp 2) (.tmp 74) rfl q2 #[.int .i64 kind, .int .u32 sender, .int .u32 0, .int .u64 0, .int .u32 0, .int .u32 0, .int .u32 0, .slice none 0 0, .string ⟨#[]⟩, .slice none 0 0, .slice none 0 0, .int .u16 0, .int .u32 0, .int .u8 0, .slice none 0 0, .slice none 0 0] rfl rfl 51 _ hb2 st51I rfl hone ?_)
      refine bodyPost_ret (results_cell_row (p := 2) Try.results69 _ _ q2 51 _ (0, 0) _ rfl (HS6.out.at 1 rfl) hd rfl st51I) rfl ?_
      exact Ret.mk (.refl I) HS6.out.drop.drop.drop ⟨rfl, by simp [onlyC, k1, k2, k3, k4, k5, k6, k7, k8, Int.not_le.2 HK9.out], rfl⟩
end Go.Proofs.Ytddopbbmgpnjjaa
