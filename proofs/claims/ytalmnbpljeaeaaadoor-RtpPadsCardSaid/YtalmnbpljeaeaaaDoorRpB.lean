/- rtp.Build of a packet without contributors and extensions. -/
import Derived.Test.YtalmnbpljeaeaaaDoorRpA
import Derived.Test.YtalmnbpljeaeaaaDoorWr
import Derived.BigQuiet
namespace Go.Proofs.YtalmnbpljeaeaaaDoor
open Go.RowKit
set_option linter.unusedSimpArgs false

theorem pkB : (Tryd.prog.underlying 32).any (fun d => match d with | .struct _ => true | _ => false) = true := by kernel_rfl
theorem pkD : ∃ fs, Tryd.prog.underlying 32 = some (.struct fs) := by
  have h := pkB
  cases e : Tryd.prog.underlying 32 with
  | none => rw [e] at h; cases h
  | some d => rw [e] at h; cases d <;> first | exact ⟨_, rfl⟩ | cases h
theorem pkI : (Tryd.prog.info? 32).map (·.size) = some 9 := by kernel_rfl
def first1 (pad : Nat) : UInt8 := if pad = 0 then 128 else 160
def second1 (m : Bool) (t : Nat) : UInt8 := UInt8.ofNat (if m then 128 + t else t)
def headL (m : Bool) (t pad : Nat) : List UInt8 := [first1 pad, second1 m t, 0, 0, 0, 0, 0, 0, 0, 0, 0, 0]
def tailL (pad : Nat) : List UInt8 := if pad = 0 then [] else List.replicate (pad - 1) 0 ++ [UInt8.ofNat pad]
def buildL (m : Bool) (t : Nat) (pl : List UInt8) (pad : Nat) : List UInt8 := headL m t pad ++ pl ++ tailL pad
theorem made_zero (n : Nat) : madeCells (Value.int .u8 0).cells n = (bvs (List.replicate n 0)).toArray := by
  apply Array.ext
  · rw [size_madeCells]; simp [bvs]
  · intro i h1 h2
    simp [madeCells, Value.cells, bvs, bv, Nat.mod_one]
theorem mkZ (w : World) (n : Nat) (hn : n ≤ 255) : (Instr.makeSlice 22 (.int .i64 (n : Int)) (.int .i64 (n : Int))).run Tryd.prog w = .ok (.slice (some ⟨w.heap.size, 0, none⟩) n n) (w.alloc (.cells (bvs (List.replicate n 0)).toArray 5)) := by
  obtain ⟨i0, hi, hz0, hz1, hz2⟩ := info_parts infoU8
  have h := run_makeSlice (P := Tryd.prog) w 22 5 i0 (.int .u8 0) Tryd.underlying22 hi hz0 .i64 .i64 n n (by omega) (by omega) (by rw [hz1]; simp; omega) (by rw [hz2]; omega) (by omega)
  rw [h, hz1, Nat.mul_one, Int.toNat_natCast, made_zero]
set_option maxRecDepth 8000 in
set_option maxHeartbeats 4000000 in
theorem buildG (I : Img) (M : List Res) (w : World) (m : Bool) (t : Nat) (A : Option Addr) (c pad : Nat) (pl : List UInt8) (hst : St I M w) (hp : Byts I A pl) (hl : pl.length ≤ 1200) (ht : t = 0 ∨ t = 96) (hpad : pad ≤ 255) :
    Calls Tryd.prog 5 #[.agg (pkC m t A pl.length c pad)] w (Ret I (fun v _ M' => ∃ B d, v = .tuple #[.slice B (buildL m t pl pad).length d, .int .i64 0] ∧ M' = row 5 1 (.slice B (buildL m t pl pad).length d) (buildL m t pl pad).length (bvs (buildL m t pl pad)) :: M)) := by
  have hst1 := hst.alloc 32 (pkC m t A pl.length c pad)
  have hb1 : Blk (w.alloc (.cells (pkC m t A pl.length c pad) 32)) w.heap.size 32 (pkC m t A pl.length c pad) := hst1.at 0 rfl
  obtain ⟨fs, hd⟩ := pkD
  have H1 := Lib.hid hst1
  have HP := Lib.hid hp
  have HG := Lib.hid (goodG m t A pl.length c pad (by omega) (by omega) hpad)
  clear hst hst1 hp
  go_enter Tryd.func5, Tryd.ntmps5
  go_upto_region 3 with (first | refine wpList_load_row rfl 32 (.tmp 1) rfl w.heap.size rfl 32 _ (0, 0) _ hb1 hd rfl pkI ?_ | (go_at_call 7; refine (HG.out _).mono ?_; rintro e w2 ⟨rfl, hw2⟩; subst w2))
  have hst3 := (((H1.out.grow (.cells (pkC m t A pl.length c pad) 32)).alloc 36 #[.slice none 0 0]).alloc 36 #[.slice none 0 0]).swap1.nil (e := 5) (size := 1)
  go_upto_region 4 with fail
  obtain ⟨q4, hq4⟩ : ∃ n, n = ((w.alloc (.cells (pkC m t A pl.length c pad) 32)).alloc (.cells (pkC m t A pl.length c pad) 32)).heap.size := ⟨_, rfl⟩
  obtain ⟨q5, hq5⟩ : ∃ n, n = (((w.alloc (.cells (pkC m t A pl.length c pad) 32)).alloc (.cells (pkC m t A pl.length c pad) 32)).alloc (.cells #[.slice none 0 0] 36)).heap.size := ⟨_, rfl⟩
  rw [← hq5, ← hq4] at hst3
  simp only [World.size_alloc] at hq4 hq5 ⊢
  rw [← hq5, ← hq4]
  generalize World.alloc (World.alloc (World.alloc (World.alloc w _) _) _) _ = W at hst3 ⊢
  clear hb1 H1 hq4 hq5 HG
  generalize w.heap.size = b at hst3 ⊢
  obtain ⟨hcB, _, _⟩ := Blk.all (hst3.at 3 rfl)
  have e1 : bits BinOp.or IntKind.i64 128 0 = 128 := by decide +kernel
  have e2 : bits BinOp.or IntKind.u8 128 32 = 160 := by decide +kernel
  have e3 : bits BinOp.or IntKind.u8 0 128 = 128 := by decide +kernel
  have e4 : bits BinOp.or IntKind.u8 96 128 = 224 := by decide +kernel
  go_quiet (fail)
  have hs := hst3.drewN nq
  generalize World.drewN W nq = W at hs ⊢
  clear hst3 hcB
  have HS := Lib.hid (show St I (row 5 1 (.slice none 0 0) (List.length ([] : List UInt8)) (bvs []) :: bk q4 36 #[.slice none 0 0] :: bk q5 36 #[.slice none 0 0] :: bk b 32 (pkC m t A pl.length c pad) :: M) W from hs)
  clear hs
  have hs := HS.out
  clear HS
  obtain ⟨hcB, _, _⟩ := Blk.all (hs.at 3 rfl)
  have hpz : pad = 0 ∨ ∃ n, pad = n + 1 := by
    rcases Nat.eq_zero_or_pos pad with h | h
    · exact .inl h
    · exact .inr ⟨pad - 1, by omega⟩
  rcases hpz with rfl | ⟨n, rfl⟩
  · rcases ht with rfl | rfl <;> cases m
    · skip
      go_wp2_with (first | (go_at_call 8; refine (wU8 (I := I) q4 36 _ _ _ hs (by simp [u16B, u32B]) (by decide)).mono ?_; clear hs hcB; rintro e W ⟨_, _, _, rfl, _, hs, rfl, rfl, v, rfl⟩; obtain ⟨hcB, _, _⟩ := Blk.all (hs.at 3 rfl)) | (go_at_call 9; refine (wU16 (I := I) q4 36 _ _ _ hs (by simp [u16B, u32B]) (by decide)).mono ?_; clear hs hcB; rintro e W ⟨_, _, _, rfl, _, hs, rfl, rfl, v, rfl⟩; obtain ⟨hcB, _, _⟩ := Blk.all (hs.at 3 rfl)) | (go_at_call 10; refine (wU32 (I := I) q4 36 _ _ _ hs (by simp [u16B, u32B]) (by decide)).mono ?_; clear hs hcB; rintro e W ⟨_, _, _, rfl, _, hs, rfl, rfl, v, rfl⟩; obtain ⟨hcB, _, _⟩ := Blk.all (hs.at 3 rfl)))
      go_loopw [54] (fun iv wr => iv = .int .i64 0 ∧ wr = W) (fun _ _ => 0)
      case atStart => exact ⟨rfl, rfl⟩
      case round =>
        obtain ⟨rfl, hwr⟩ := hrel
        subst wr
        go_wp2
        go_loopw [64] (fun iv wr => iv = .int .i64 0 ∧ wr = W) (fun _ _ => 0)
        case atStart => exact ⟨rfl, rfl⟩
        case round =>
          obtain ⟨rfl, hwr⟩ := hrel
          subst wr
          obtain ⟨hc5, _, _⟩ := (show Blk W q5 36 #[.slice none 0 0] from hs.at 2 rfl).one
          go_wp2_with (go_at_call 12; refine (evenA W q5 hc5).mono ?_; rintro e w' ⟨rfl, hw'⟩; subst w'; clear hc5)
          go_at_call 11
          refine (wBytes (I := I) q4 36 _ _ A c pl hs (by simp [u16B, u32B]; omega) (fun w2 N h => HP.out.src h Tryd.underlying22 c)).mono ?_
          clear hs hcB
          rintro e W ⟨_, _, _, rfl, _, hs, rfl, rfl, v, rfl⟩
          have hs1 : St I (row 5 1 v (headL false 0 (0) ++ pl).length (bvs (headL false 0 (0) ++ pl)) :: bk q4 36 #[v] :: bk q5 36 #[.slice none 0 0] :: bk b 32 (pkC false 0 A pl.length c (0)) :: M) W := hs
          clear hs
          obtain ⟨L, hL⟩ : ∃ L, L = buildL false 0 pl 0 := ⟨_, rfl⟩
          have hLe : headL false 0 0 ++ pl = L := by rw [hL]; simp [buildL, tailL]
          have hLl : (L.length : Int) ≤ 1500 := by rw [← hLe, List.length_append]; show ((12 + pl.length : Nat) : Int) ≤ _; omega
          rw [hLe] at hs1
          have HLH := Lib.hid hL
          obtain ⟨B, d, rfl⟩ := own_form (show W.ownsRow 0 5 1 v L.length (bvs L) from hs1.head)
          obtain ⟨hc4, _, _⟩ := (show Blk W q4 36 #[_] from hs1.at 1 rfl).one
          obtain ⟨hcB, _, _⟩ := Blk.all (hs1.at 3 rfl)
          have H2 := Lib.hid hs1
          clear hs1 hL hLe
          go_wp2
          go_returns
          exact Ret.mk (.refl I) H2.out.swap3.drop.drop.drop ⟨B, d, by rw [← HLH.out]; rfl, by rw [← HLH.out]⟩
    · skip
      go_wp2_with (first | (go_at_call 8; refine (wU8 (I := I) q4 36 _ _ _ hs (by simp [u16B, u32B]) (by decide)).mono ?_; clear hs hcB; rintro e W ⟨_, _, _, rfl, _, hs, rfl, rfl, v, rfl⟩; obtain ⟨hcB, _, _⟩ := Blk.all (hs.at 3 rfl)) | (go_at_call 9; refine (wU16 (I := I) q4 36 _ _ _ hs (by simp [u16B, u32B]) (by decide)).mono ?_; clear hs hcB; rintro e W ⟨_, _, _, rfl, _, hs, rfl, rfl, v, rfl⟩; obtain ⟨hcB, _, _⟩ := Blk.all (hs.at 3 rfl)) | (go_at_call 10; refine (wU32 (I := I) q4 36 _ _ _ hs (by simp [u16B, u32B]) (by decide)).mono ?_; clear hs hcB; rintro e W ⟨_, _, _, rfl, _, hs, rfl, rfl, v, rfl⟩; obtain ⟨hcB, _, _⟩ := Blk.all (hs.at 3 rfl)))
      go_loopw [54] (fun iv wr => iv = .int .i64 0 ∧ wr = W) (fun _ _ => 0)
      case atStart => exact ⟨rfl, rfl⟩
      case round =>
        obtain ⟨rfl, hwr⟩ := hrel
        subst wr
        go_wp2
        go_loopw [64] (fun iv wr => iv = .int .i64 0 ∧ wr = W) (fun _ _ => 0)
        case atStart => exact ⟨rfl, rfl⟩
        case round =>
          obtain ⟨rfl, hwr⟩ := hrel
          subst wr
          obtain ⟨hc5, _, _⟩ := (show Blk W q5 36 #[.slice none 0 0] from hs.at 2 rfl).one
          go_wp2_with (go_at_call 12; refine (evenA W q5 hc5).mono ?_; rintro e w' ⟨rfl, hw'⟩; subst w'; clear hc5)
          go_at_call 11
          refine (wBytes (I := I) q4 36 _ _ A c pl hs (by simp [u16B, u32B]; omega) (fun w2 N h => HP.out.src h Tryd.underlying22 c)).mono ?_
          clear hs hcB
          rintro e W ⟨_, _, _, rfl, _, hs, rfl, rfl, v, rfl⟩
          have hs1 : St I (row 5 1 v (headL true 0 (0) ++ pl).length (bvs (headL true 0 (0) ++ pl)) :: bk q4 36 #[v] :: bk q5 36 #[.slice none 0 0] :: bk b 32 (pkC true 0 A pl.length c (0)) :: M) W := hs
          clear hs
          obtain ⟨L, hL⟩ : ∃ L, L = buildL true 0 pl 0 := ⟨_, rfl⟩
          have hLe : headL true 0 0 ++ pl = L := by rw [hL]; simp [buildL, tailL]
          have hLl : (L.length : Int) ≤ 1500 := by rw [← hLe, List.length_append]; show ((12 + pl.length : Nat) : Int) ≤ _; omega
          rw [hLe] at hs1
          have HLH := Lib.hid hL
          obtain ⟨B, d, rfl⟩ := own_form (show W.ownsRow 0 5 1 v L.length (bvs L) from hs1.head)
          obtain ⟨hc4, _, _⟩ := (show Blk W q4 36 #[_] from hs1.at 1 rfl).one
          obtain ⟨hcB, _, _⟩ := Blk.all (hs1.at 3 rfl)
          have H2 := Lib.hid hs1
          clear hs1 hL hLe
          go_wp2
          go_returns
          exact Ret.mk (.refl I) H2.out.swap3.drop.drop.drop ⟨B, d, by rw [← HLH.out]; rfl, by rw [← HLH.out]⟩
    · skip
      go_wp2_with (first | (go_at_call 8; refine (wU8 (I := I) q4 36 _ _ _ hs (by simp [u16B, u32B]) (by decide)).mono ?_; clear hs hcB; rintro e W ⟨_, _, _, rfl, _, hs, rfl, rfl, v, rfl⟩; obtain ⟨hcB, _, _⟩ := Blk.all (hs.at 3 rfl)) | (go_at_call 9; refine (wU16 (I := I) q4 36 _ _ _ hs (by simp [u16B, u32B]) (by decide)).mono ?_; clear hs hcB; rintro e W ⟨_, _, _, rfl, _, hs, rfl, rfl, v, rfl⟩; obtain ⟨hcB, _, _⟩ := Blk.all (hs.at 3 rfl)) | (go_at_call 10; refine (wU32 (I := I) q4 36 _ _ _ hs (by simp [u16B, u32B]) (by decide)).mono ?_; clear hs hcB; rintro e W ⟨_, _, _, rfl, _, hs, rfl, rfl, v, rfl⟩; obtain ⟨hcB, _, _⟩ := Blk.all (hs.at 3 rfl)))
      go_loopw [54] (fun iv wr => iv = .int .i64 0 ∧ wr = W) (fun _ _ => 0)
      case atStart => exact ⟨rfl, rfl⟩
      case round =>
        obtain ⟨rfl, hwr⟩ := hrel
        subst wr
        go_wp2
        go_loopw [64] (fun iv wr => iv = .int .i64 0 ∧ wr = W) (fun _ _ => 0)
        case atStart => exact ⟨rfl, rfl⟩
        case round =>
          obtain ⟨rfl, hwr⟩ := hrel
          subst wr
          obtain ⟨hc5, _, _⟩ := (show Blk W q5 36 #[.slice none 0 0] from hs.at 2 rfl).one
          go_wp2_with (go_at_call 12; refine (evenA W q5 hc5).mono ?_; rintro e w' ⟨rfl, hw'⟩; subst w'; clear hc5)
          go_at_call 11
          refine (wBytes (I := I) q4 36 _ _ A c pl hs (by simp [u16B, u32B]; omega) (fun w2 N h => HP.out.src h Tryd.underlying22 c)).mono ?_
          clear hs hcB
          rintro e W ⟨_, _, _, rfl, _, hs, rfl, rfl, v, rfl⟩
          have hs1 : St I (row 5 1 v (headL false 96 (0) ++ pl).length (bvs (headL false 96 (0) ++ pl)) :: bk q4 36 #[v] :: bk q5 36 #[.slice none 0 0] :: bk b 32 (pkC false 96 A pl.length c (0)) :: M) W := hs
          clear hs
          obtain ⟨L, hL⟩ : ∃ L, L = buildL false 96 pl 0 := ⟨_, rfl⟩
          have hLe : headL false 96 0 ++ pl = L := by rw [hL]; simp [buildL, tailL]
          have hLl : (L.length : Int) ≤ 1500 := by rw [← hLe, List.length_append]; show ((12 + pl.length : Nat) : Int) ≤ _; omega
          rw [hLe] at hs1
          have HLH := Lib.hid hL
          obtain ⟨B, d, rfl⟩ := own_form (show W.ownsRow 0 5 1 v L.length (bvs L) from hs1.head)
          obtain ⟨hc4, _, _⟩ := (show Blk W q4 36 #[_] from hs1.at 1 rfl).one
          obtain ⟨hcB, _, _⟩ := Blk.all (hs1.at 3 rfl)
          have H2 := Lib.hid hs1
          clear hs1 hL hLe
          go_wp2
          go_returns
          exact Ret.mk (.refl I) H2.out.swap3.drop.drop.drop ⟨B, d, by rw [← HLH.out]; rfl, by rw [← HLH.out]⟩
    · skip
      go_wp2_with (first | (go_at_call 8; refine (wU8 (I := I) q4 36 _ _ _ hs (by simp [u16B, u32B]) (by decide)).mono ?_; clear hs hcB; rintro e W ⟨_, _, _, rfl, _, hs, rfl, rfl, v, rfl⟩; obtain ⟨hcB, _, _⟩ := Blk.all (hs.at 3 rfl)) | (go_at_call 9; refine (wU16 (I := I) q4 36 _ _ _ hs (by simp [u16B, u32B]) (by decide)).mono ?_; clear hs hcB; rintro e W ⟨_, _, _, rfl, _, hs, rfl, rfl, v, rfl⟩; obtain ⟨hcB, _, _⟩ := Blk.all (hs.at 3 rfl)) | (go_at_call 10; refine (wU32 (I := I) q4 36 _ _ _ hs (by simp [u16B, u32B]) (by decide)).mono ?_; clear hs hcB; rintro e W ⟨_, _, _, rfl, _, hs, rfl, rfl, v, rfl⟩; obtain ⟨hcB, _, _⟩ := Blk.all (hs.at 3 rfl)))
      go_loopw [54] (fun iv wr => iv = .int .i64 0 ∧ wr = W) (fun _ _ => 0)
      case atStart => exact ⟨rfl, rfl⟩
      case round =>
        obtain ⟨rfl, hwr⟩ := hrel
        subst wr
        go_wp2
        go_loopw [64] (fun iv wr => iv = .int .i64 0 ∧ wr = W) (fun _ _ => 0)
        case atStart => exact ⟨rfl, rfl⟩
        case round =>
          obtain ⟨rfl, hwr⟩ := hrel
          subst wr
          obtain ⟨hc5, _, _⟩ := (show Blk W q5 36 #[.slice none 0 0] from hs.at 2 rfl).one
          go_wp2_with (go_at_call 12; refine (evenA W q5 hc5).mono ?_; rintro e w' ⟨rfl, hw'⟩; subst w'; clear hc5)
          go_at_call 11
          refine (wBytes (I := I) q4 36 _ _ A c pl hs (by simp [u16B, u32B]; omega) (fun w2 N h => HP.out.src h Tryd.underlying22 c)).mono ?_
          clear hs hcB
          rintro e W ⟨_, _, _, rfl, _, hs, rfl, rfl, v, rfl⟩
          have hs1 : St I (row 5 1 v (headL true 96 (0) ++ pl).length (bvs (headL true 96 (0) ++ pl)) :: bk q4 36 #[v] :: bk q5 36 #[.slice none 0 0] :: bk b 32 (pkC true 96 A pl.length c (0)) :: M) W := hs
          clear hs
          obtain ⟨L, hL⟩ : ∃ L, L = buildL true 96 pl 0 := ⟨_, rfl⟩
          have hLe : headL true 96 0 ++ pl = L := by rw [hL]; simp [buildL, tailL]
          have hLl : (L.length : Int) ≤ 1500 := by rw [← hLe, List.length_append]; show ((12 + pl.length : Nat) : Int) ≤ _; omega
          rw [hLe] at hs1
          have HLH := Lib.hid hL
          obtain ⟨B, d, rfl⟩ := own_form (show W.ownsRow 0 5 1 v L.length (bvs L) from hs1.head)
          obtain ⟨hc4, _, _⟩ := (show Blk W q4 36 #[_] from hs1.at 1 rfl).one
          obtain ⟨hcB, _, _⟩ := Blk.all (hs1.at 3 rfl)
          have H2 := Lib.hid hs1
          clear hs1 hL hLe
          go_wp2
          go_returns
          exact Ret.mk (.refl I) H2.out.swap3.drop.drop.drop ⟨B, d, by rw [← HLH.out]; rfl, by rw [← HLH.out]⟩
  · rcases ht with rfl | rfl <;> cases m
    · skip
      go_wp2_with (first | (go_at_call 8; refine (wU8 (I := I) q4 36 _ _ _ hs (by simp [u16B, u32B]) (by decide)).mono ?_; clear hs hcB; rintro e W ⟨_, _, _, rfl, _, hs, rfl, rfl, v, rfl⟩; obtain ⟨hcB, _, _⟩ := Blk.all (hs.at 3 rfl)) | (go_at_call 9; refine (wU16 (I := I) q4 36 _ _ _ hs (by simp [u16B, u32B]) (by decide)).mono ?_; clear hs hcB; rintro e W ⟨_, _, _, rfl, _, hs, rfl, rfl, v, rfl⟩; obtain ⟨hcB, _, _⟩ := Blk.all (hs.at 3 rfl)) | (go_at_call 10; refine (wU32 (I := I) q4 36 _ _ _ hs (by simp [u16B, u32B]) (by decide)).mono ?_; clear hs hcB; rintro e W ⟨_, _, _, rfl, _, hs, rfl, rfl, v, rfl⟩; obtain ⟨hcB, _, _⟩ := Blk.all (hs.at 3 rfl)))
      go_loopw [54] (fun iv wr => iv = .int .i64 0 ∧ wr = W) (fun _ _ => 0)
      case atStart => exact ⟨rfl, rfl⟩
      case round =>
        obtain ⟨rfl, hwr⟩ := hrel
        subst wr
        go_wp2
        go_loopw [64] (fun iv wr => iv = .int .i64 0 ∧ wr = W) (fun _ _ => 0)
        case atStart => exact ⟨rfl, rfl⟩
        case round =>
          obtain ⟨rfl, hwr⟩ := hrel
          subst wr
          obtain ⟨hc5, _, _⟩ := (show Blk W q5 36 #[.slice none 0 0] from hs.at 2 rfl).one
          go_wp2_with (go_at_call 12; refine (evenA W q5 hc5).mono ?_; rintro e w' ⟨rfl, hw'⟩; subst w'; clear hc5)
          go_at_call 11
          refine (wBytes (I := I) q4 36 _ _ A c pl hs (by simp [u16B, u32B]; omega) (fun w2 N h => HP.out.src h Tryd.underlying22 c)).mono ?_
          clear hs hcB
          rintro e W ⟨_, _, _, rfl, _, hs, rfl, rfl, v, rfl⟩
          have hs1 : St I (row 5 1 v (headL false 0 (n + 1) ++ pl).length (bvs (headL false 0 (n + 1) ++ pl)) :: bk q4 36 #[v] :: bk q5 36 #[.slice none 0 0] :: bk b 32 (pkC false 0 A pl.length c (n + 1)) :: M) W := hs
          clear hs
          obtain ⟨hcB, _, _⟩ := Blk.all (hs1.at 3 rfl)
          have hmk := mkZ W n (by omega)
          obtain ⟨J, hJ, hs2, hob⟩ := (hs1.alloc 5 (bvs (List.replicate n 0)).toArray).freezeBlk
          have hz : Byts J (some ⟨W.heap.size, 0, none⟩) (List.replicate n 0) := Byts.ofBlk hob rfl
          have hpn : ((n + 1 : Nat) : Int) - 1 = (n : Int) := by omega
          have hpn2 : ((n : Int) + 1) - 1 = (n : Int) := by omega
          have HZ := Lib.hid hz
          have HJ := Lib.hid hJ
          have HS2 := Lib.hid hs2
          clear hs1 hob hz hJ hs2
          go_wp2_with fail
          go_at_call 11
          have HC := wBytes (I := J) q4 36 _ _ (some ⟨W.heap.size, 0, none⟩) n (List.replicate n 0) HS2.out (by rw [List.length_append, List.length_replicate]; show 12 + pl.length + n ≤ _; omega) (fun w2 N h => HZ.out.src h Tryd.underlying22 n)
          simp only [List.length_replicate] at HC
          refine HC.mono ?_
          clear HC HS2 hcB hmk
          rintro e W2 ⟨_, _, _, rfl, _, hs, rfl, rfl, v2, rfl⟩
          obtain ⟨hcB, _, _⟩ := Blk.all (hs.at 3 rfl)
          have hw8 : ((n : Int) + 1) % 256 = (n : Int) + 1 := by omega
          go_wp2_with fail
          go_at_call 8
          refine (wU8 (I := J) q4 36 v2 (headL false 0 (n + 1) ++ pl ++ List.replicate n 0) ((n : Int) + 1) hs (by rw [List.length_append, List.length_append, List.length_replicate]; show 12 + pl.length + n ≤ _; omega) ⟨by omega, by omega⟩).mono ?_
          clear hs hcB
          rintro e W3 ⟨_, _, _, rfl, _, hs, rfl, rfl, v3, rfl⟩
          obtain ⟨L, hL⟩ : ∃ L, L = buildL false 0 pl (n + 1) := ⟨_, rfl⟩
          have hLe : headL false 0 (n + 1) ++ pl ++ List.replicate n 0 ++ [byteOf ((n : Int) + 1)] = L := by
            have hbo : byteOf ((n : Int) + 1) = UInt8.ofNat (n + 1) := rfl
            rw [hL, hbo]
            simp [buildL, tailL]
          have hLl : (L.length : Int) ≤ 1500 := by
            rw [← hLe, List.length_append, List.length_append, List.length_append, List.length_replicate]
            show ((12 + pl.length + n + 1 : Nat) : Int) ≤ _
            omega
          rw [hLe] at hs
          have HLH := Lib.hid hL
          obtain ⟨B, d, rfl⟩ := own_form (show W3.ownsRow 0 5 1 v3 L.length (bvs L) from hs.head)
          obtain ⟨hc4, _, _⟩ := (show Blk W3 q4 36 #[_] from hs.at 1 rfl).one
          obtain ⟨hcB, _, _⟩ := Blk.all (hs.at 3 rfl)
          have H2 := Lib.hid hs
          clear hs hL hLe
          go_wp2
          go_returns
          exact Ret.mk HJ.out H2.out.swap3.drop.drop.drop ⟨B, d, by rw [← HLH.out]; rfl, by rw [← HLH.out]⟩
    · skip
      go_wp2_with (first | (go_at_call 8; refine (wU8 (I := I) q4 36 _ _ _ hs (by simp [u16B, u32B]) (by decide)).mono ?_; clear hs hcB; rintro e W ⟨_, _, _, rfl, _, hs, rfl, rfl, v, rfl⟩; obtain ⟨hcB, _, _⟩ := Blk.all (hs.at 3 rfl)) | (go_at_call 9; refine (wU16 (I := I) q4 36 _ _ _ hs (by simp [u16B, u32B]) (by decide)).mono ?_; clear hs hcB; rintro e W ⟨_, _, _, rfl, _, hs, rfl, rfl, v, rfl⟩; obtain ⟨hcB, _, _⟩ := Blk.all (hs.at 3 rfl)) | (go_at_call 10; refine (wU32 (I := I) q4 36 _ _ _ hs (by simp [u16B, u32B]) (by decide)).mono ?_; clear hs hcB; rintro e W ⟨_, _, _, rfl, _, hs, rfl, rfl, v, rfl⟩; obtain ⟨hcB, _, _⟩ := Blk.all (hs.at 3 rfl)))
      go_loopw [54] (fun iv wr => iv = .int .i64 0 ∧ wr = W) (fun _ _ => 0)
      case atStart => exact ⟨rfl, rfl⟩
      case round =>
        obtain ⟨rfl, hwr⟩ := hrel
        subst wr
        go_wp2
        go_loopw [64] (fun iv wr => iv = .int .i64 0 ∧ wr = W) (fun _ _ => 0)
        case atStart => exact ⟨rfl, rfl⟩
        case round =>
          obtain ⟨rfl, hwr⟩ := hrel
          subst wr
          obtain ⟨hc5, _, _⟩ := (show Blk W q5 36 #[.slice none 0 0] from hs.at 2 rfl).one
          go_wp2_with (go_at_call 12; refine (evenA W q5 hc5).mono ?_; rintro e w' ⟨rfl, hw'⟩; subst w'; clear hc5)
          go_at_call 11
          refine (wBytes (I := I) q4 36 _ _ A c pl hs (by simp [u16B, u32B]; omega) (fun w2 N h => HP.out.src h Tryd.underlying22 c)).mono ?_
          clear hs hcB
          rintro e W ⟨_, _, _, rfl, _, hs, rfl, rfl, v, rfl⟩
          have hs1 : St I (row 5 1 v (headL true 0 (n + 1) ++ pl).length (bvs (headL true 0 (n + 1) ++ pl)) :: bk q4 36 #[v] :: bk q5 36 #[.slice none 0 0] :: bk b 32 (pkC true 0 A pl.length c (n + 1)) :: M) W := hs
          clear hs
          obtain ⟨hcB, _, _⟩ := Blk.all (hs1.at 3 rfl)
          have hmk := mkZ W n (by omega)
          obtain ⟨J, hJ, hs2, hob⟩ := (hs1.alloc 5 (bvs (List.replicate n 0)).toArray).freezeBlk
          have hz : Byts J (some ⟨W.heap.size, 0, none⟩) (List.replicate n 0) := Byts.ofBlk hob rfl
          have hpn : ((n + 1 : Nat) : Int) - 1 = (n : Int) := by omega
          have hpn2 : ((n : Int) + 1) - 1 = (n : Int) := by omega
          have HZ := Lib.hid hz
          have HJ := Lib.hid hJ
          have HS2 := Lib.hid hs2
          clear hs1 hob hz hJ hs2
          go_wp2_with fail
          go_at_call 11
          have HC := wBytes (I := J) q4 36 _ _ (some ⟨W.heap.size, 0, none⟩) n (List.replicate n 0) HS2.out (by rw [List.length_append, List.length_replicate]; show 12 + pl.length + n ≤ _; omega) (fun w2 N h => HZ.out.src h Tryd.underlying22 n)
          simp only [List.length_replicate] at HC
          refine HC.mono ?_
          clear HC HS2 hcB hmk
          rintro e W2 ⟨_, _, _, rfl, _, hs, rfl, rfl, v2, rfl⟩
          obtain ⟨hcB, _, _⟩ := Blk.all (hs.at 3 rfl)
          have hw8 : ((n : Int) + 1) % 256 = (n : Int) + 1 := by omega
          go_wp2_with fail
          go_at_call 8
          refine (wU8 (I := J) q4 36 v2 (headL true 0 (n + 1) ++ pl ++ List.replicate n 0) ((n : Int) + 1) hs (by rw [List.length_append, List.length_append, List.length_replicate]; show 12 + pl.length + n ≤ _; omega) ⟨by omega, by omega⟩).mono ?_
          clear hs hcB
          rintro e W3 ⟨_, _, _, rfl, _, hs, rfl, rfl, v3, rfl⟩
          obtain ⟨L, hL⟩ : ∃ L, L = buildL true 0 pl (n + 1) := ⟨_, rfl⟩
          have hLe : headL true 0 (n + 1) ++ pl ++ List.replicate n 0 ++ [byteOf ((n : Int) + 1)] = L := by
            have hbo : byteOf ((n : Int) + 1) = UInt8.ofNat (n + 1) := rfl
            rw [hL, hbo]
            simp [buildL, tailL]
          have hLl : (L.length : Int) ≤ 1500 := by
            rw [← hLe, List.length_append, List.length_append, List.length_append, List.length_replicate]
            show ((12 + pl.length + n + 1 : Nat) : Int) ≤ _
            omega
          rw [hLe] at hs
          have HLH := Lib.hid hL
          obtain ⟨B, d, rfl⟩ := own_form (show W3.ownsRow 0 5 1 v3 L.length (bvs L) from hs.head)
          obtain ⟨hc4, _, _⟩ := (show Blk W3 q4 36 #[_] from hs.at 1 rfl).one
          obtain ⟨hcB, _, _⟩ := Blk.all (hs.at 3 rfl)
          have H2 := Lib.hid hs
          clear hs hL hLe
          go_wp2
          go_returns
          exact Ret.mk HJ.out H2.out.swap3.drop.drop.drop ⟨B, d, by rw [← HLH.out]; rfl, by rw [← HLH.out]⟩
    · skip
      go_wp2_with (first | (go_at_call 8; refine (wU8 (I := I) q4 36 _ _ _ hs (by simp [u16B, u32B]) (by decide)).mono ?_; clear hs hcB; rintro e W ⟨_, _, _, rfl, _, hs, rfl, rfl, v, rfl⟩; obtain ⟨hcB, _, _⟩ := Blk.all (hs.at 3 rfl)) | (go_at_call 9; refine (wU16 (I := I) q4 36 _ _ _ hs (by simp [u16B, u32B]) (by decide)).mono ?_; clear hs hcB; rintro e W ⟨_, _, _, rfl, _, hs, rfl, rfl, v, rfl⟩; obtain ⟨hcB, _, _⟩ := Blk.all (hs.at 3 rfl)) | (go_at_call 10; refine (wU32 (I := I) q4 36 _ _ _ hs (by simp [u16B, u32B]) (by decide)).mono ?_; clear hs hcB; rintro e W ⟨_, _, _, rfl, _, hs, rfl, rfl, v, rfl⟩; obtain ⟨hcB, _, _⟩ := Blk.all (hs.at 3 rfl)))
      go_loopw [54] (fun iv wr => iv = .int .i64 0 ∧ wr = W) (fun _ _ => 0)
      case atStart => exact ⟨rfl, rfl⟩
      case round =>
        obtain ⟨rfl, hwr⟩ := hrel
        subst wr
        go_wp2
        go_loopw [64] (fun iv wr => iv = .int .i64 0 ∧ wr = W) (fun _ _ => 0)
        case atStart => exact ⟨rfl, rfl⟩
        case round =>
          obtain ⟨rfl, hwr⟩ := hrel
          subst wr
          obtain ⟨hc5, _, _⟩ := (show Blk W q5 36 #[.slice none 0 0] from hs.at 2 rfl).one
          go_wp2_with (go_at_call 12; refine (evenA W q5 hc5).mono ?_; rintro e w' ⟨rfl, hw'⟩; subst w'; clear hc5)
          go_at_call 11
          refine (wBytes (I := I) q4 36 _ _ A c pl hs (by simp [u16B, u32B]; omega) (fun w2 N h => HP.out.src h Tryd.underlying22 c)).mono ?_
          clear hs hcB
          rintro e W ⟨_, _, _, rfl, _, hs, rfl, rfl, v, rfl⟩
          have hs1 : St I (row 5 1 v (headL false 96 (n + 1) ++ pl).length (bvs (headL false 96 (n + 1) ++ pl)) :: bk q4 36 #[v] :: bk q5 36 #[.slice none 0 0] :: bk b 32 (pkC false 96 A pl.length c (n + 1)) :: M) W := hs
          clear hs
          obtain ⟨hcB, _, _⟩ := Blk.all (hs1.at 3 rfl)
          have hmk := mkZ W n (by omega)
          obtain ⟨J, hJ, hs2, hob⟩ := (hs1.alloc 5 (bvs (List.replicate n 0)).toArray).freezeBlk
          have hz : Byts J (some ⟨W.heap.size, 0, none⟩) (List.replicate n 0) := Byts.ofBlk hob rfl
          have hpn : ((n + 1 : Nat) : Int) - 1 = (n : Int) := by omega
          have hpn2 : ((n : Int) + 1) - 1 = (n : Int) := by omega
          have HZ := Lib.hid hz
          have HJ := Lib.hid hJ
          have HS2 := Lib.hid hs2
          clear hs1 hob hz hJ hs2
          go_wp2_with fail
          go_at_call 11
          have HC := wBytes (I := J) q4 36 _ _ (some ⟨W.heap.size, 0, none⟩) n (List.replicate n 0) HS2.out (by rw [List.length_append, List.length_replicate]; show 12 + pl.length + n ≤ _; omega) (fun w2 N h => HZ.out.src h Tryd.underlying22 n)
          simp only [List.length_replicate] at HC
          refine HC.mono ?_
          clear HC HS2 hcB hmk
          rintro e W2 ⟨_, _, _, rfl, _, hs, rfl, rfl, v2, rfl⟩
          obtain ⟨hcB, _, _⟩ := Blk.all (hs.at 3 rfl)
          have hw8 : ((n : Int) + 1) % 256 = (n : Int) + 1 := by omega
          go_wp2_with fail
          go_at_call 8
          refine (wU8 (I := J) q4 36 v2 (headL false 96 (n + 1) ++ pl ++ List.replicate n 0) ((n : Int) + 1) hs (by rw [List.length_append, List.length_append, List.length_replicate]; show 12 + pl.length + n ≤ _; omega) ⟨by omega, by omega⟩).mono ?_
          clear hs hcB
          rintro e W3 ⟨_, _, _, rfl, _, hs, rfl, rfl, v3, rfl⟩
          obtain ⟨L, hL⟩ : ∃ L, L = buildL false 96 pl (n + 1) := ⟨_, rfl⟩
          have hLe : headL false 96 (n + 1) ++ pl ++ List.replicate n 0 ++ [byteOf ((n : Int) + 1)] = L := by
            have hbo : byteOf ((n : Int) + 1) = UInt8.ofNat (n + 1) := rfl
            rw [hL, hbo]
            simp [buildL, tailL]
          have hLl : (L.length : Int) ≤ 1500 := by
            rw [← hLe, List.length_append, List.length_append, List.length_append, List.length_replicate]
            show ((12 + pl.length + n + 1 : Nat) : Int) ≤ _
            omega
          rw [hLe] at hs
          have HLH := Lib.hid hL
          obtain ⟨B, d, rfl⟩ := own_form (show W3.ownsRow 0 5 1 v3 L.length (bvs L) from hs.head)
          obtain ⟨hc4, _, _⟩ := (show Blk W3 q4 36 #[_] from hs.at 1 rfl).one
          obtain ⟨hcB, _, _⟩ := Blk.all (hs.at 3 rfl)
          have H2 := Lib.hid hs
          clear hs hL hLe
          go_wp2
          go_returns
          exact Ret.mk HJ.out H2.out.swap3.drop.drop.drop ⟨B, d, by rw [← HLH.out]; rfl, by rw [← HLH.out]⟩
    · skip
      go_wp2_with (first | (go_at_call 8; refine (wU8 (I := I) q4 36 _ _ _ hs (by simp [u16B, u32B]) (by decide)).mono ?_; clear hs hcB; rintro e W ⟨_, _, _, rfl, _, hs, rfl, rfl, v, rfl⟩; obtain ⟨hcB, _, _⟩ := Blk.all (hs.at 3 rfl)) | (go_at_call 9; refine (wU16 (I := I) q4 36 _ _ _ hs (by simp [u16B, u32B]) (by decide)).mono ?_; clear hs hcB; rintro e W ⟨_, _, _, rfl, _, hs, rfl, rfl, v, rfl⟩; obtain ⟨hcB, _, _⟩ := Blk.all (hs.at 3 rfl)) | (go_at_call 10; refine (wU32 (I := I) q4 36 _ _ _ hs (by simp [u16B, u32B]) (by decide)).mono ?_; clear hs hcB; rintro e W ⟨_, _, _, rfl, _, hs, rfl, rfl, v, rfl⟩; obtain ⟨hcB, _, _⟩ := Blk.all (hs.at 3 rfl)))
      go_loopw [54] (fun iv wr => iv = .int .i64 0 ∧ wr = W) (fun _ _ => 0)
      case atStart => exact ⟨rfl, rfl⟩
      case round =>
        obtain ⟨rfl, hwr⟩ := hrel
        subst wr
        go_wp2
        go_loopw [64] (fun iv wr => iv = .int .i64 0 ∧ wr = W) (fun _ _ => 0)
        case atStart => exact ⟨rfl, rfl⟩
        case round =>
          obtain ⟨rfl, hwr⟩ := hrel
          subst wr
          obtain ⟨hc5, _, _⟩ := (show Blk W q5 36 #[.slice none 0 0] from hs.at 2 rfl).one
          go_wp2_with (go_at_call 12; refine (evenA W q5 hc5).mono ?_; rintro e w' ⟨rfl, hw'⟩; subst w'; clear hc5)
          go_at_call 11
          refine (wBytes (I := I) q4 36 _ _ A c pl hs (by simp [u16B, u32B]; omega) (fun w2 N h => HP.out.src h Tryd.underlying22 c)).mono ?_
          clear hs hcB
          rintro e W ⟨_, _, _, rfl, _, hs, rfl, rfl, v, rfl⟩
          have hs1 : St I (row 5 1 v (headL true 96 (n + 1) ++ pl).length (bvs (headL true 96 (n + 1) ++ pl)) :: bk q4 36 #[v] :: bk q5 36 #[.slice none 0 0] :: bk b 32 (pkC true 96 A pl.length c (n + 1)) :: M) W := hs
          clear hs
          obtain ⟨hcB, _, _⟩ := Blk.all (hs1.at 3 rfl)
          have hmk := mkZ W n (by omega)
          obtain ⟨J, hJ, hs2, hob⟩ := (hs1.alloc 5 (bvs (List.replicate n 0)).toArray).freezeBlk
          have hz : Byts J (some ⟨W.heap.size, 0, none⟩) (List.replicate n 0) := Byts.ofBlk hob rfl
          have hpn : ((n + 1 : Nat) : Int) - 1 = (n : Int) := by omega
          have hpn2 : ((n : Int) + 1) - 1 = (n : Int) := by omega
          have HZ := Lib.hid hz
          have HJ := Lib.hid hJ
          have HS2 := Lib.hid hs2
          clear hs1 hob hz hJ hs2
          go_wp2_with fail
          go_at_call 11
          have HC := wBytes (I := J) q4 36 _ _ (some ⟨W.heap.size, 0, none⟩) n (List.replicate n 0) HS2.out (by rw [List.length_append, List.length_replicate]; show 12 + pl.length + n ≤ _; omega) (fun w2 N h => HZ.out.src h Tryd.underlying22 n)
          simp only [List.length_replicate] at HC
          refine HC.mono ?_
          clear HC HS2 hcB hmk
          rintro e W2 ⟨_, _, _, rfl, _, hs, rfl, rfl, v2, rfl⟩
          obtain ⟨hcB, _, _⟩ := Blk.all (hs.at 3 rfl)
          have hw8 : ((n : Int) + 1) % 256 = (n : Int) + 1 := by omega
          go_wp2_with fail
          go_at_call 8
          refine (wU8 (I := J) q4 36 v2 (headL true 96 (n + 1) ++ pl ++ List.replicate n 0) ((n : Int) + 1) hs (by rw [List.length_append, List.length_append, List.length_replicate]; show 12 + pl.length + n ≤ _; omega) ⟨by omega, by omega⟩).mono ?_
          clear hs hcB
          rintro e W3 ⟨_, _, _, rfl, _, hs, rfl, rfl, v3, rfl⟩
          obtain ⟨L, hL⟩ : ∃ L, L = buildL true 96 pl (n + 1) := ⟨_, rfl⟩
          have hLe : headL true 96 (n + 1) ++ pl ++ List.replicate n 0 ++ [byteOf ((n : Int) + 1)] = L := by
            have hbo : byteOf ((n : Int) + 1) = UInt8.ofNat (n + 1) := rfl
            rw [hL, hbo]
            simp [buildL, tailL]
          have hLl : (L.length : Int) ≤ 1500 := by
            rw [← hLe, List.length_append, List.length_append, List.length_append, List.length_replicate]
            show ((12 + pl.length + n + 1 : Nat) : Int) ≤ _
            omega
          rw [hLe] at hs
          have HLH := Lib.hid hL
          obtain ⟨B, d, rfl⟩ := own_form (show W3.ownsRow 0 5 1 v3 L.length (bvs L) from hs.head)
          obtain ⟨hc4, _, _⟩ := (show Blk W3 q4 36 #[_] from hs.at 1 rfl).one
          obtain ⟨hcB, _, _⟩ := Blk.all (hs.at 3 rfl)
          have H2 := Lib.hid hs
          clear hs hL hLe
          go_wp2
          go_returns
          exact Ret.mk HJ.out H2.out.swap3.drop.drop.drop ⟨B, d, by rw [← HLH.out]; rfl, by rw [← HLH.out]⟩
end Go.Proofs.YtalmnbpljeaeaaaDoor
