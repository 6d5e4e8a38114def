/- rtp.Build on the packet that 'awake' builds. -/
import Derived.Test.YtalmnbpljeaeaaaWr
namespace Go.Proofs.Ytalmnbpljeaeaaa
open Go.RowKit
set_option linter.unusedSimpArgs false

theorem pkB : (Try.prog.underlying 37).any (fun d => match d with | .struct _ => true | _ => false) = true := by kernel_rfl
theorem pkD : ∃ fs, Try.prog.underlying 37 = some (.struct fs) := by
  have h := pkB
  cases e : Try.prog.underlying 37 with
  | none => rw [e] at h; cases h
  | some d => rw [e] at h; cases d <;> first | exact ⟨_, rfl⟩ | cases h
theorem pkI : (Try.prog.info? 37).map (·.size) = some 9 := by kernel_rfl
abbrev awC : Array Value := #[.bool false, .int .i64 0, .int .u16 0, .int .u32 0, .int .u32 0, .slice none 0 0, .slice none 0 0, .slice none 0 0, .int .i64 1]
theorem mk0 (w : World) : (Instr.makeSlice 22 (.int .i64 0) (.int .i64 0)).run Try.prog w = .ok (.slice (some ⟨w.heap.size, 0, none⟩) 0 0) (w.alloc (.cells #[] 5)) := by kernel_rfl
theorem goodA (w : World) : Calls Try.prog 12 #[.agg awC] w fun e w' => e = .returned (.bool true) ∧ w' = w.alloc (.cells awC 37) := by
  go_enter Try.func12, Try.ntmps12
  go_wp2
  go_loopw [8] (fun iv wr => iv = .int .i64 0 ∧ wr = w.alloc (.cells awC 37)) (fun _ _ => 0)
  case atStart => exact ⟨rfl, rfl⟩
  case round =>
    obtain ⟨rfl, rfl⟩ := hrel
    go_wp2
    go_returns
    exact ⟨rfl, rfl⟩
theorem evenA (w : World) (q : Nat) (hc : w.cell? ⟨q, 0, none⟩ = some (.slice none 0 0)) : Calls Try.prog 17 #[.pointer (some ⟨q, 0, none⟩)] w fun e w' => e = .returned (.tuple #[]) ∧ w' = w := by
  have HC := Lib.hid hc
  clear hc
  go_enter Try.func17, Try.ntmps17
  go_wp2
  go_loopw [] (fun wr => wr = w) (fun _ => 0)
  case atStart => rfl
  case round =>
    obtain rfl := hrel
    have hc := HC.out
    go_wp2
    go_returns
    exact ⟨rfl, rfl⟩
def awL : List UInt8 := [160, 0, 0, 0, 0, 0, 0, 0, 0, 0, 0, 0, 1]
set_option maxRecDepth 8000 in
set_option maxHeartbeats 4000000 in
theorem buildA (I : Img) (M : List Res) (w : World) (hst : St I M w) :
    Calls Try.prog 10 #[.agg awC] w (Ret I (fun v J M' => I = J ∧ ∃ A c, v = .tuple #[.slice A 13 c, .int .i64 0] ∧ M' = row 5 1 (.slice A 13 c) 13 (bvs awL) :: M)) := by
  have hst1 := hst.alloc 37 awC
  have hb1 : Blk (w.alloc (.cells awC 37)) w.heap.size 37 awC := hst1.at 0 rfl
  obtain ⟨fs, hd⟩ := pkD
  have H1 := Lib.hid hst1
  clear hst hst1
  go_enter Try.func10, Try.ntmps10
  go_upto_region 3 with (first | refine wpList_load_row rfl 37 (.tmp 1) rfl w.heap.size rfl 37 _ (0, 0) _ hb1 hd rfl pkI ?_ | (go_at_call 12; refine (goodA _).mono ?_; rintro e w2 ⟨rfl, hw2⟩; subst w2))
  have hst3 := (((H1.out.grow (.cells awC 37)).alloc 48 #[.slice none 0 0]).alloc 48 #[.slice none 0 0]).swap1.nil (e := 5) (size := 1)
  go_upto_region 4 with fail
  obtain ⟨q4, hq4⟩ : ∃ n, n = ((w.alloc (.cells awC 37)).alloc (.cells awC 37)).heap.size := ⟨_, rfl⟩
  obtain ⟨q5, hq5⟩ : ∃ n, n = (((w.alloc (.cells awC 37)).alloc (.cells awC 37)).alloc (.cells #[.slice none 0 0] 48)).heap.size := ⟨_, rfl⟩
  rw [← hq5, ← hq4] at hst3
  simp only [World.size_alloc] at hq4 hq5 ⊢
  rw [← hq5, ← hq4]
  generalize World.alloc (World.alloc (World.alloc (World.alloc w _) _) _) _ = W at hst3 ⊢
  clear hb1 H1 hq4 hq5
  obtain ⟨hcB, _, _⟩ := Blk.all (hst3.at 3 rfl)
  have e1 : bits BinOp.or IntKind.i64 128 0 = 128 := by decide +kernel
  have e2 : bits BinOp.or IntKind.u8 128 32 = 160 := by decide +kernel
  go_quiet (fail)
  have hs := hst3.drewN nq
  generalize World.drewN W nq = W at hs ⊢
  clear hst3 hcB
  obtain ⟨hcB, _, _⟩ := Blk.all (hs.at 3 rfl)
  have hs : St I (row 5 1 (.slice none 0 0) (List.length ([] : List UInt8)) (bvs []) :: bk q4 48 #[.slice none 0 0] :: bk q5 48 #[.slice none 0 0] :: bk w.heap.size 37 awC :: M) W := hs
  go_wp2_with (first | (go_at_call 13; refine (wU8 (I := I) q4 48 _ _ _ hs (by simp [u16B, u32B]) (by decide)).mono ?_; clear hs hcB; rintro e W ⟨_, _, _, rfl, _, hs, rfl, rfl, v, rfl⟩; obtain ⟨hcB, _, _⟩ := Blk.all (hs.at 3 rfl)) | (go_at_call 14; refine (wU16 (I := I) q4 48 _ _ _ hs (by simp [u16B, u32B]) (by decide)).mono ?_; clear hs hcB; rintro e W ⟨_, _, _, rfl, _, hs, rfl, rfl, v, rfl⟩; obtain ⟨hcB, _, _⟩ := Blk.all (hs.at 3 rfl)) | (go_at_call 15; refine (wU32 (I := I) q4 48 _ _ _ hs (by simp [u16B, u32B]) (by decide)).mono ?_; clear hs hcB; rintro e W ⟨_, _, _, rfl, _, hs, rfl, rfl, v, rfl⟩; obtain ⟨hcB, _, _⟩ := Blk.all (hs.at 3 rfl)))
  go_loopw [54] (fun iv wr => iv = .int .i64 0 ∧ wr = W) (fun _ _ => 0)
  case atStart => exact ⟨rfl, rfl⟩
  case round =>
    obtain ⟨rfl, hwr⟩ := hrel
    subst wr
    go_wp2
    go_loopw [64] (fun iv wr => iv = .int .i64 0 ∧ wr = W) (fun _ _ => 0)
    case atStart => exact ⟨rfl, rfl⟩
    case round =>
      obtain ⟨rfl, hwr⟩ := hrel
      subst wr
      obtain ⟨hc5, _, _⟩ := (show Blk W q5 48 #[.slice none 0 0] from hs.at 2 rfl).one
      go_wp2_with (go_at_call 17; refine (evenA W q5 hc5).mono ?_; rintro e w' ⟨rfl, hw'⟩; subst w'; clear hc5)
      go_upto_region 34 with (go_at_call 16; refine (wBytes (I := I) q4 48 _ _ none 0 [] hs (by simp [u16B, u32B]) (fun w2 N h => (Byts.nil I none).src h Try.underlying22 0)).mono ?_; clear hs hcB; rintro e W ⟨_, _, _, rfl, _, hs, rfl, rfl, v, rfl⟩; obtain ⟨hcB, _, _⟩ := Blk.all (hs.at 3 rfl))
      have hmk := mk0 W
      have hs' := hs.grow (.cells #[] 5)
      have HS := Lib.hid hs'
      clear hs hs'
      go_wp2_with (go_at_call 16; refine (wBytes (I := I) q4 48 _ _ (some ⟨W.heap.size, 0, none⟩) 0 [] HS.out (by simp [u16B, u32B]) (fun w2 N h => (Byts.nil I _).src h Try.underlying22 0)).mono ?_; clear hcB hmk; rintro e W ⟨_, _, _, rfl, _, hs, rfl, rfl, v, rfl⟩; obtain ⟨hcB, _, _⟩ := Blk.all (hs.at 3 rfl); clear HS)
      refine (wU8 (I := I) q4 48 _ _ _ hs (by simp [u16B, u32B]) (by decide)).mono ?_
      clear hs hcB
      rintro e W ⟨_, _, _, rfl, _, hs, rfl, rfl, v, rfl⟩
      have hs2 : St I (row 5 1 v 13 (bvs awL) :: bk q4 48 #[v] :: bk q5 48 #[.slice none 0 0] :: bk w.heap.size 37 awC :: M) W := hs
      clear hs
      obtain ⟨A, c, rfl⟩ := own_form (show W.ownsRow 0 5 1 v 13 (bvs awL) from hs2.head)
      obtain ⟨hc4, _, _⟩ := (show Blk W q4 48 #[_] from hs2.at 1 rfl).one
      have H2 := Lib.hid hs2
      clear hs2
      go_wp2
      go_returns
      exact Ret.mk (.refl I) H2.out.swap3.drop.drop.drop ⟨rfl, A, c, rfl, rfl⟩
theorem awakeC (I : Img) (M : List Res) (w : World) (hst : St I M w) : Calls Try.prog 4 #[] w (Ret I (fun v J M' => I = J ∧ v = .bool true ∧ M' = M)) := by
  have HST := Lib.hid hst
  clear hst
  go_enter Try.func4, Try.ntmps4
  go_wp2_with fail
  refine (buildA I M w HST.out).mono ?_
  clear HST
  rintro e w2 ⟨_, _, _, rfl, _, hs, rfl, A, c, rfl, rfl⟩
  obtain ⟨g, rfl, _, hg, hcell, _⟩ := St.rowAt hs (by decide)
  have z0 : w2.cell? ⟨g, 0, none⟩ = some (.int .u8 160) := hcell 0 (by decide)
  have z12 : w2.cell? ⟨g, 12, none⟩ = some (.int .u8 1) := hcell 12 (by decide)
  have HS := Lib.hid hs
  clear hs hcell
  go_wp2
  go_returns
  exact Ret.mk (.refl I) HS.out.drop ⟨rfl, rfl, rfl⟩
end Go.Proofs.Ytalmnbpljeaeaaa
