/- rtp.Parse of bytes that Build wrote. -/
import Derived.Test.YtalmnbpljeaeaaaDoorRpD
import Derived.IntWalk
namespace Go.Proofs.YtalmnbpljeaeaaaDoor
open Go.RowKit
set_option linter.unusedSimpArgs false

section
variable {I J : Img} {M : List Res} {w : World}
def RdQ (I : Img) (M : List Res) (p : Nat) (r : List UInt8) (u v : Value) (J : Img) (M' : List Res) : Prop := I = J ∧ v = u ∧ ∃ b', Rdr I p (r, false) b' ∧ M' = b' :: M
theorem rdA (p : Nat) (x : UInt8) (r : List UInt8) (b : Res) (hst : St I (b :: M) w) (h : Rdr I p (x :: r, false) b) :
    Calls Tryd.prog 15 #[.pointer (some ⟨p, 0, none⟩)] w (Ret I (RdQ I M p r (.int .u8 x.toNat))) :=
  (rd_u8 p _ b hst h).mono fun _ _ ⟨v, J, M', he, hl, hs, hJ, hv, hq⟩ => by
    have e : cutS 1 (x :: r, false) = ([x], (r, false)) := by simp [cutS]; omega
    rw [e] at hv hq
    exact ⟨v, J, M', he, hl, hs, hJ, by rw [hv]; simp [numL], hq⟩
theorem rdB (p : Nat) (r : List UInt8) (b : Res) (hst : St I (b :: M) w) (h : Rdr I p (0 :: 0 :: r, false) b) :
    Calls Tryd.prog 16 #[.pointer (some ⟨p, 0, none⟩)] w (Ret I (RdQ I M p r (.int .u16 0))) :=
  (rd_u16 p _ b hst h).mono fun _ _ ⟨v, J, M', he, hl, hs, hJ, hv, hq⟩ => by
    have e : cutS 2 (0 :: 0 :: r, false) = ([0, 0], (r, false)) := by simp [cutS]; omega
    rw [e] at hv hq
    exact ⟨v, J, M', he, hl, hs, hJ, by rw [hv]; simp [numL], hq⟩
theorem rdC (p : Nat) (r : List UInt8) (b : Res) (hst : St I (b :: M) w) (h : Rdr I p (0 :: 0 :: 0 :: 0 :: r, false) b) :
    Calls Tryd.prog 17 #[.pointer (some ⟨p, 0, none⟩)] w (Ret I (RdQ I M p r (.int .u32 0))) :=
  (rd_u32 p _ b hst h).mono fun _ _ ⟨v, J, M', he, hl, hs, hJ, hv, hq⟩ => by
    have e : cutS 4 (0 :: 0 :: 0 :: 0 :: r, false) = ([0, 0, 0, 0], (r, false)) := by simp [cutS]; omega
    rw [e] at hv hq
    exact ⟨v, J, M', he, hl, hs, hJ, by rw [hv]; simp [numL], hq⟩
theorem rdD (p : Nat) (pl tl : List UInt8) (b : Res) (hst : St I (b :: M) w) (h : Rdr I p (pl ++ tl, false) b) (hl : (pl ++ tl).length ≤ 1500) :
    Calls Tryd.prog 21 #[.pointer (some ⟨p, 0, none⟩), .int .i64 pl.length] w (Ret I (fun v J M' => I = J ∧ ∃ A c b', v = .slice A pl.length c ∧ pl.length ≤ c ∧ M' = row 5 1 v pl.length (bvs pl) :: b' :: M)) :=
  (rd_take p pl.length _ b hst h (by rw [List.length_append] at hl; omega) (by show (pl ++ tl).length ≤ _; omega)).mono fun _ _ ⟨v, J, M', he, hl, hs, hJ, A, c, b', hv, hc, _, hM⟩ => by
    have e : cutS pl.length (pl ++ tl, false) = (pl, (tl, false)) := by simp [cutS]; omega
    rw [e] at hv hc hM
    exact ⟨v, J, M', he, hl, hs, hJ, A, c, b', hv, hc, hM⟩
end
abbrev zP : Array Value := pkC false 0 none 0 0 0
theorem res6 (w : World) (q : Nat) (m : Bool) (A : Option Addr) (n c pad : Nat) (x : Value) (tmps : Array Value) (ht : tmps[2]? = some (.pointer (some ⟨q, 0, none⟩))) (hx : tmps[3]? = some x) (h : Blk w q 32 (pkC m 96 A n c pad)) :
    (results Tryd.f6 tmps).run Tryd.prog w = .ok (.tuple #[.agg (pkC m 96 A n c pad), x]) w := by
  have c0 := h.cell 0
  have c1 := h.cell 1
  have c2 := h.cell 2
  have c3 := h.cell 3
  have c4 := h.cell 4
  have c5 := h.cell 5
  have c6 := h.cell 6
  have c7 := h.cell 7
  have c8 := h.cell 8
  simp only [List.getElem?_toArray, List.getElem?_cons_zero, List.getElem?_cons_succ] at c0 c1 c2 c3 c4 c5 c6 c7 c8
  simp [results, Tryd.results6, go_sem, ht, hx, c0, c1, c2, c3, c4, c5, c6, c7, c8]
theorem setAll {I : Img} {M : List Res} {w : World} {q : Nat} {a b c : Res} {m : Bool} {A : Option Addr} {n d pad : Nat} (h : St I (a :: b :: c :: bk q 32 zP :: M) w) :
    St I (a :: b :: c :: bk q 32 (pkC m 96 A n d pad) :: M) (((((((((w.setCell ⟨q, 0, none⟩ (.bool m)).setCell ⟨q, 1, none⟩ (.int .i64 96)).setCell ⟨q, 2, none⟩ (.int .u16 0)).setCell ⟨q, 3, none⟩ (.int .u32 0)).setCell ⟨q, 4, none⟩ (.int .u32 0)).setCell ⟨q, 5, none⟩ (.slice none 0 0)).setCell ⟨q, 6, none⟩ (.slice none 0 0)).setCell ⟨q, 7, none⟩ (.slice A n d)).setCell ⟨q, 8, none⟩ (.int .i64 pad)) := by
  have h0 : St I (a :: b :: c :: bk q 32 #[.bool m, .int .i64 0, .int .u16 0, .int .u32 0, .int .u32 0, .slice none 0 0, .slice none 0 0, .slice none 0 0, .int .i64 0] :: M) _ := h.set3 0 (.bool m)
  have h1 : St I (a :: b :: c :: bk q 32 #[.bool m, .int .i64 96, .int .u16 0, .int .u32 0, .int .u32 0, .slice none 0 0, .slice none 0 0, .slice none 0 0, .int .i64 0] :: M) _ := h0.set3 1 (.int .i64 96)
  have h2 : St I (a :: b :: c :: bk q 32 #[.bool m, .int .i64 96, .int .u16 0, .int .u32 0, .int .u32 0, .slice none 0 0, .slice none 0 0, .slice none 0 0, .int .i64 0] :: M) _ := h1.set3 2 (.int .u16 0)
  have h3 : St I (a :: b :: c :: bk q 32 #[.bool m, .int .i64 96, .int .u16 0, .int .u32 0, .int .u32 0, .slice none 0 0, .slice none 0 0, .slice none 0 0, .int .i64 0] :: M) _ := h2.set3 3 (.int .u32 0)
  have h4 : St I (a :: b :: c :: bk q 32 #[.bool m, .int .i64 96, .int .u16 0, .int .u32 0, .int .u32 0, .slice none 0 0, .slice none 0 0, .slice none 0 0, .int .i64 0] :: M) _ := h3.set3 4 (.int .u32 0)
  have h5 : St I (a :: b :: c :: bk q 32 #[.bool m, .int .i64 96, .int .u16 0, .int .u32 0, .int .u32 0, .slice none 0 0, .slice none 0 0, .slice none 0 0, .int .i64 0] :: M) _ := h4.set3 5 (.slice none 0 0)
  have h6 : St I (a :: b :: c :: bk q 32 #[.bool m, .int .i64 96, .int .u16 0, .int .u32 0, .int .u32 0, .slice none 0 0, .slice none 0 0, .slice none 0 0, .int .i64 0] :: M) _ := h5.set3 6 (.slice none 0 0)
  have h7 : St I (a :: b :: c :: bk q 32 #[.bool m, .int .i64 96, .int .u16 0, .int .u32 0, .int .u32 0, .slice none 0 0, .slice none 0 0, .slice A n d, .int .i64 0] :: M) _ := h6.set3 7 (.slice A n d)
  have h8 : St I (a :: b :: c :: bk q 32 #[.bool m, .int .i64 96, .int .u16 0, .int .u32 0, .int .u32 0, .slice none 0 0, .slice none 0 0, .slice A n d, .int .i64 pad] :: M) _ := h7.set3 8 (.int .i64 pad)
  exact h8
def ParsedQ (m : Bool) (pad : Nat) (pl : List UInt8) (M : List Res) (v : Value) (M' : List Res) : Prop := ∃ B d r1 r2 r3, v = .tuple #[.agg (pkC m 96 B pl.length d pad), .int .i64 0] ∧ M' = row 5 1 (.slice B pl.length d) pl.length (bvs pl) :: r1 :: r2 :: r3 :: M
set_option maxRecDepth 8000 in
set_option maxHeartbeats 4000000 in
theorem parse0 (I : Img) (M : List Res) (w : World) (m : Bool) (A : Option Addr) (c N : Nat) (x1 : UInt8) (pl : List UInt8) (hst : St I M w) (hb : Byts I A (128 :: x1 :: 0 :: 0 :: 0 :: 0 :: 0 :: 0 :: 0 :: 0 :: 0 :: 0 :: (pl ++ []))) (hN : N = (128 :: x1 :: 0 :: 0 :: 0 :: 0 :: 0 :: 0 :: 0 :: 0 :: 0 :: 0 :: (pl ++ [])).length) (_hc : N ≤ c) (hl : pl.length ≤ 1200)
    (e1 : (bits BinOp.and IntKind.u8 (x1.toNat : Int) 128 != 0) = m) (e2 : bits BinOp.and IntKind.u8 (x1.toNat : Int) 127 = 96) :
    Calls Tryd.prog 6 #[.slice A N c] w (Ret I (fun v _ M' => ParsedQ m 0 pl M v M')) := by
  have hst1 := hst.alloc 32 zP
  have HH : Hid (Calls Tryd.prog 13 #[.slice A N c] (w.alloc (.cells zP 32)) fun e w' => e = .returned (.tuple #[.int .i64 12, .int .i64 0]) ∧ w.alloc (.cells zP 32) = w') := Lib.hid (by rw [hN]; exact headG I _ _ 128 _ A c hst1 hb (.inl rfl) (by simp) (by simp; omega))
  have h1 : (N : Int) ≤ 1500 := by rw [hN]; simp; omega
  have h1' : decide ((1500 : Int) < (N : Int)) = false := by simpa using h1
  have HN := Lib.hid (rd_new A c _ hst1 hb (by simp; omega))
  rw [← hN] at HN
  have HB := Lib.hid hb
  have HS1 := Lib.hid hst1
  have HNN := Lib.hid hN
  clear hst hst1 hb hN
  go_enter Tryd.func6, Tryd.ntmps6
  go_wp2_with fail
  go_at_call 13
  refine HH.out.mono ?_
  rintro e w1 ⟨rfl, hw1⟩
  subst w1
  go_wp2_with fail
  go_at_call 14
  refine HN.out.mono ?_
  rintro e w1 ⟨_, J1, _, rfl, hl1, hs, p, b1, rfl, hR, rfl⟩
  clear HN HH
  have HC := Lib.hid (rdA p _ _ _ hs hR)
  clear hs hR
  go_wp2_with fail
  go_at_call 15
  refine HC.out.mono ?_
  rintro e w1 ⟨_, _, _, rfl, _, hs, rfl, rfl, b1, hR, rfl⟩
  clear HC
  have HC := Lib.hid (rdA p _ _ _ hs hR)
  clear hs hR
  go_wp2_with fail
  go_at_call 15
  refine HC.out.mono ?_
  rintro e w1 ⟨_, _, _, rfl, _, hs, rfl, rfl, b1, hR, rfl⟩
  clear HC
  have HC := Lib.hid (rdB p _ _ hs hR)
  clear hs hR
  go_wp2_with fail
  go_at_call 16
  refine HC.out.mono ?_
  rintro e w1 ⟨_, _, _, rfl, _, hs, rfl, rfl, b1, hR, rfl⟩
  clear HC
  have HC := Lib.hid (rdC p _ _ hs hR)
  clear hs hR
  go_wp2_with fail
  go_at_call 17
  refine HC.out.mono ?_
  rintro e w1 ⟨_, _, _, rfl, _, hs, rfl, rfl, b1, hR, rfl⟩
  clear HC
  have HC := Lib.hid (rdC p _ _ hs hR)
  clear hs hR
  go_wp2_with fail
  go_at_call 17
  refine HC.out.mono ?_
  rintro e w1 ⟨_, _, _, rfl, _, hs, rfl, rfl, b1, hR, rfl⟩
  clear HC
  have hs2 := hs.alloc 32 (pkC m 96 none 0 0 0)
  have HS2 := Lib.hid hs2
  have HR := Lib.hid hR
  clear hs2 hs hR
  have e3 : bits BinOp.and IntKind.u8 128 15 = 0 := by decide +kernel
  have e4 : bits BinOp.and IntKind.u8 128 16 = 0 := by decide +kernel
  have e5 : bits BinOp.and IntKind.u8 128 32 = 0 := by decide +kernel
  go_wp2
  obtain ⟨q9, hq9⟩ : ∃ n, n = w1.heap.size := ⟨_, rfl⟩
  rw [← hq9] at HS2 ⊢
  generalize World.alloc w1 _ = W at HS2 ⊢
  clear hq9
  go_loopw [48] (fun iv wr => iv = .int .u8 0 ∧ wr = W) (fun _ _ => 0)
  case atStart => exact ⟨rfl, rfl⟩
  case round =>
    obtain ⟨rfl, hwr⟩ := hrel
    subst wr
    obtain ⟨hcB, hfB, hltB⟩ := Blk.all (HS2.out.at 0 rfl)
    go_wp2
    have hpl : ((pl ++ ([] : List UInt8)).length : Int) = (pl.length : Int) := by simp
    have hwr : IntKind.i64.wrap (pl.length : Int) = (pl.length : Int) := IntWalk.i64_in _ (by omega)
    have HL := Lib.hid (rd_left p (pl ++ [], false) b1 (HS2.out.swap1.drew) HR.out)
    rw [hpl] at HL
    have HT := Lib.hid (rdD p pl [] b1 (HS2.out.swap1.drew) HR.out (by simp; omega))
    have HW := Lib.hid hwr
    clear hpl hwr
    refine wp_region_held_drew (S := (fun w' => w'.cell? ⟨q9, 8, none⟩ = some (.int .i64 0))) (by kernel_rfl) (by (try dsimp only); first | exact (Blk.all (HS2.out.drew.at 0 rfl)).1 8 | exact (Blk.all (hs2.at 2 rfl)).1 8 | exact (Blk.all ((hs2.set2 7 _).at 2 rfl)).1 8) (fun hHeld => ?_)
    refine wpAnyH_take (i := 0) (oi := _) (v := ?_) rfl (by kernel_rfl) (by kernel_rfl) (by kernel_rfl) (fun _ _ _ h => h) (Or.inl ⟨by rfl, ?_⟩) (by assumption) ?_
    rotate_left
    · (intro w hSw; (try dsimp only at hSw); go_simp; try with_reducible rfl)
    try simp only [Act.put, List.getElem_toArray, List.getElem_cons_zero, List.getElem_cons_succ, List.setIfInBounds_toArray, List.set_cons_zero, List.set_cons_succ]
    refine wpAnyH_take (i := 1) (oi := _) (v := ?_) rfl (by kernel_rfl) (by kernel_rfl) (by kernel_rfl) (fun _ _ _ h => h) (Or.inl ⟨by rfl, ?_⟩) (by assumption) ?_
    rotate_left
    · (intro w hSw; (try dsimp only at hSw); go_simp; try with_reducible rfl)
    try simp only [Act.put, List.getElem_toArray, List.getElem_cons_zero, List.getElem_cons_succ, List.setIfInBounds_toArray, List.set_cons_zero, List.set_cons_succ]
    refine wpAnyH_take (i := 3) (oi := _) (v := ?_) rfl (by kernel_rfl) (by kernel_rfl) (by kernel_rfl) (fun _ _ _ h => h) (Or.inl ⟨by rfl, ?_⟩) (by assumption) ?_
    rotate_left
    · (intro w hSw; (try dsimp only at hSw); go_simp; try with_reducible rfl)
    try simp only [Act.put, List.getElem_toArray, List.getElem_cons_zero, List.getElem_cons_succ, List.setIfInBounds_toArray, List.set_cons_zero, List.set_cons_succ]
    refine wpAnyH_take (i := 4) (oi := _) (v := ?_) rfl (by kernel_rfl) (by kernel_rfl) (by kernel_rfl) (fun _ _ _ h => h) (Or.inl ⟨by rfl, ?_⟩) (by assumption) ?_
    rotate_left
    · (intro w hSw; (try dsimp only at hSw); go_simp; try with_reducible rfl)
    try simp only [Act.put, List.getElem_toArray, List.getElem_cons_zero, List.getElem_cons_succ, List.setIfInBounds_toArray, List.set_cons_zero, List.set_cons_succ]
    refine wpAnyH_ready (rs := [2]) (by kernel_rfl) (by simp) ?_
    refine AllReadyH.cons (o := _) rfl (fun K hK => ?_) AllReadyH.nil
    go_simp
    refine HL.out.mono ?_; rintro e w2 ⟨rfl, hw2⟩; subst w2
    try clear hHeld
    refine hK.out _ _ (by (try dsimp only); first | exact (Blk.all (HS2.out.drew.at 0 rfl)).1 8 | exact (Blk.all (hs2.at 2 rfl)).1 8 | exact (Blk.all ((hs2.set2 7 _).at 2 rfl)).1 8) (fun hHeld => ?_)
    clear hK K
    try simp only [Act.put, List.getElem_toArray, List.getElem_cons_zero, List.getElem_cons_succ, List.setIfInBounds_toArray, List.set_cons_zero, List.set_cons_succ]
    refine wpAnyH_take (i := 5) (oi := _) (v := ?_) rfl (by kernel_rfl) (by kernel_rfl) (by kernel_rfl) (fun _ _ _ h => h) (Or.inl ⟨by rfl, ?_⟩) (by assumption) ?_
    rotate_left
    · (intro w hSw; (try dsimp only at hSw); go_simp; try with_reducible rfl)
    try simp only [Act.put, List.getElem_toArray, List.getElem_cons_zero, List.getElem_cons_succ, List.setIfInBounds_toArray, List.set_cons_zero, List.set_cons_succ]
    refine wpAnyH_ready (rs := [6]) (by kernel_rfl) (by simp) ?_
    refine AllReadyH.cons (o := _) rfl (fun K hK => ?_) AllReadyH.nil
    go_simp
    rw [HW.out]; refine HT.out.mono ?_; rintro e w3 ⟨_, _, _, rfl, _, hs2, rfl, A2, c2, b2, rfl, hc2, rfl⟩; obtain ⟨hcB, hfB, hltB⟩ := Blk.all (hs2.at 2 rfl)
    try clear hHeld
    refine hK.out _ _ (by (try dsimp only); first | exact (Blk.all (HS2.out.drew.at 0 rfl)).1 8 | exact (Blk.all (hs2.at 2 rfl)).1 8 | exact (Blk.all ((hs2.set2 7 _).at 2 rfl)).1 8) (fun hHeld => ?_)
    clear hK K
    try simp only [Act.put, List.getElem_toArray, List.getElem_cons_zero, List.getElem_cons_succ, List.setIfInBounds_toArray, List.set_cons_zero, List.set_cons_succ]
    refine wpAnyH_take (i := 7) (oi := _) (v := ?_) rfl (by kernel_rfl) (by kernel_rfl) (by kernel_rfl) (fun _ _ _ h => h) (Or.inl ⟨by rfl, ?_⟩) (by assumption) ?_
    rotate_left
    · (intro w hSw; (try dsimp only at hSw); go_simp; try with_reducible rfl)
    try simp only [Act.put, List.getElem_toArray, List.getElem_cons_zero, List.getElem_cons_succ, List.setIfInBounds_toArray, List.set_cons_zero, List.set_cons_succ]
    refine wpAnyH_ready (rs := [8]) (by kernel_rfl) (by simp) ?_
    refine AllReadyH.cons (o := _) rfl (fun K hK => ?_) AllReadyH.nil
    go_simp
    try clear hHeld
    refine hK.out _ _ (by (try dsimp only); first | exact (Blk.all (HS2.out.drew.at 0 rfl)).1 8 | exact (Blk.all (hs2.at 2 rfl)).1 8 | exact (Blk.all ((hs2.set2 7 _).at 2 rfl)).1 8) (fun hHeld => ?_)
    clear hK K
    try simp only [Act.put, List.getElem_toArray, List.getElem_cons_zero, List.getElem_cons_succ, List.setIfInBounds_toArray, List.set_cons_zero, List.set_cons_succ]
    refine wpAnyH_done (by kernel_rfl) ?_ _
    have hs3 : St J1 (row 5 1 (.slice A2 pl.length c2) pl.length (bvs pl) :: b2 :: bk q9 32 (pkC m 96 A2 pl.length c2 0) :: bk w.heap.size 32 zP :: M) (w3.setCell ⟨q9, 7, none⟩ (.slice A2 pl.length c2)) := hs2.set2 7 _
    generalize World.setCell w3 _ _ = W3 at hs3 ⊢
    clear hs2 hcB hfB hltB hHeld HL HT HW HS2 HR
    have hb9 : Blk W3 q9 32 (pkC m 96 A2 pl.length c2 0) := hs3.at 2 rfl
    obtain ⟨fs, hd⟩ := pkD
    have HG := Lib.hid (goodG m 96 A2 pl.length c2 0 (by omega) (by omega) (by omega) W3)
    have hs4 := hs3.grow (.cells (pkC m 96 A2 pl.length c2 0) 32)
    have hb4 : Blk (W3.alloc (.cells (pkC m 96 A2 pl.length c2 0) 32)) q9 32 (pkC m 96 A2 pl.length c2 0) := hs4.at 2 rfl
    obtain ⟨hcZ, hfZ, hltZ⟩ := Blk.all (hs4.at 3 rfl)
    have HS4 := Lib.hid hs4
    clear hs3 hs4
    go_wp2_with (first | refine wpList_load_row rfl 32 (.tmp 9) rfl q9 rfl 32 _ (0, 0) _ hb9 hd rfl pkI ?_ | refine wpList_load_row rfl 32 (.tmp 9) rfl q9 rfl 32 _ (0, 0) _ hb4 hd rfl pkI ?_ | (go_at_call 7; refine HG.out.mono ?_; rintro e w2 ⟨rfl, hw2⟩; subst w2))
    refine bodyPost_ret (res6 _ _ m A2 pl.length c2 0 (.int .i64 0) _ rfl rfl ((setAll HS4.out).at 3 rfl)) rfl ?_
    exact Ret.mk hl1 (setAll HS4.out) ⟨A2, c2, b2, _, _, rfl, rfl⟩
theorem Byts.get {I : Img} {M : List Res} {w : World} {g o : Nat} {bs : List UInt8} (h : Byts I (some ⟨g, o, none⟩) bs) (hs : St I M w) (j : Nat) (hj : j < bs.length) : w.cell? ⟨g, o + j, none⟩ = some (.int .u8 bs[j].toNat) := by
  obtain ⟨g', o', e, hc⟩ := h.at (by omega)
  injection e with e
  injection e with e1 e2
  subst e1 e2
  exact hc M w hs j hj
abbrev pkV (m : Bool) (v : Value) (x : Int) : Array Value := #[.bool m, .int .i64 96, .int .u16 0, .int .u32 0, .int .u32 0, .slice none 0 0, .slice none 0 0, v, .int .i64 x]
theorem tail_facts {I : Img} {g o n c : Nat} {H : List UInt8} (hn : n + 1 ≤ 255) (hc : H.length + n + 1 ≤ c) (h : Byts I (some ⟨g, o, none⟩) (H ++ (List.replicate n 0 ++ [UInt8.ofNat (n + 1)]))) :
    (∀ M w, St I M w → w.cell? ⟨g, o + (H.length + n), none⟩ = some (.int .u8 ((n : Int) + 1))) ∧ Byts I (some ⟨g, o + H.length, none⟩) (List.replicate n 0) := by
  constructor
  · intro M w hs
    have h1 := h.get hs (H.length + n) (by simp)
    rw [h1, List.getElem_append_right (by omega), List.getElem_append_right (by simp)]
    simp only [List.length_replicate, List.getElem_singleton]
    congr 1
    have e : (UInt8.ofNat (n + 1)).toNat = n + 1 := by rw [UInt8.toNat_ofNat']; exact Nat.mod_eq_of_lt (by omega)
    rw [e]
    rfl
  · have h1 := (h.drop (n := H.length) (c := c) (by simp; omega)).take n
    rw [if_neg (by omega), List.drop_left] at h1
    rw [List.take_left' (by simp)] at h1
    simpa [add_at] using h1
set_option maxRecDepth 8000 in
set_option maxHeartbeats 4000000 in
theorem parse1 (I : Img) (M : List Res) (w : World) (m : Bool) (g o c L : Nat) (n : Nat) (x1 : UInt8) (pl : List UInt8) (hst : St I M w) (hb : Byts I (some ⟨g, o, none⟩) (160 :: x1 :: 0 :: 0 :: 0 :: 0 :: 0 :: 0 :: 0 :: 0 :: 0 :: 0 :: (pl ++ (List.replicate n 0 ++ [UInt8.ofNat (n + 1)])))) (hN : L + n + 1 = (160 :: x1 :: 0 :: 0 :: 0 :: 0 :: 0 :: 0 :: 0 :: 0 :: 0 :: 0 :: (pl ++ (List.replicate n 0 ++ [UInt8.ofNat (n + 1)]))).length) (hc : L + n + 1 ≤ c) (hl : pl.length ≤ 1200) (hn : n + 1 ≤ 255) (hL : L = 12 + pl.length)
    (e1 : (bits BinOp.and IntKind.u8 (x1.toNat : Int) 128 != 0) = m) (e2 : bits BinOp.and IntKind.u8 (x1.toNat : Int) 127 = 96) :
    Calls Tryd.prog 6 #[.slice (some ⟨g, o, none⟩) (L + n + 1) c] w (Ret I (fun v _ M' => ParsedQ m (n + 1) pl M v M')) := by
  have htf : (∀ M w, St I M w → w.cell? ⟨g, o + (L + n), none⟩ = some (.int .u8 ((n : Int) + 1))) ∧ Byts I (some ⟨g, o + L, none⟩) (List.replicate n 0) := by
    have hLL : L = (160 :: x1 :: 0 :: 0 :: 0 :: 0 :: 0 :: 0 :: 0 :: 0 :: 0 :: 0 :: pl).length := by rw [hL]; simp; omega
    rw [hLL]
    exact tail_facts hn (by rw [← hLL]; exact hc) (by rw [List.cons_append, List.cons_append, List.cons_append, List.cons_append, List.cons_append, List.cons_append, List.cons_append, List.cons_append, List.cons_append, List.cons_append, List.cons_append, List.cons_append]; exact hb)
  have HTF := Lib.hid htf
  clear htf
  have hst1 := hst.alloc 32 zP
  have HH : Hid (Calls Tryd.prog 13 #[.slice (some ⟨g, o, none⟩) (L + n + 1) c] (w.alloc (.cells zP 32)) fun e w' => e = .returned (.tuple #[.int .i64 12, .int .i64 0]) ∧ w.alloc (.cells zP 32) = w') := Lib.hid (by rw [hN]; exact headG I _ _ 160 _ (some ⟨g, o, none⟩) c hst1 hb (.inr rfl) (by simp) (by simp; omega))
  have h1 : (L : Int) + n + 1 ≤ 1500 := by omega
  have h1' : decide ((1500 : Int) < (L : Int) + n + 1) = false := by simpa using h1
  have h2 : 12 ≤ L := by omega
  have HLL := Lib.hid hL
  have HN := Lib.hid (rd_new (some ⟨g, o, none⟩) c _ hst1 hb (by simp; omega))
  rw [← hN] at HN
  have HB := Lib.hid hb
  have HS1 := Lib.hid hst1
  have HNN := Lib.hid hN
  clear hst hst1 hb hN hL
  go_enter Tryd.func6, Tryd.ntmps6
  go_wp2_with fail
  go_at_call 13
  refine HH.out.mono ?_
  rintro e w1 ⟨rfl, hw1⟩
  subst w1
  go_wp2_with fail
  go_at_call 14
  refine HN.out.mono ?_
  rintro e w1 ⟨_, J1, _, rfl, hl1, hs, p, b1, rfl, hR, rfl⟩
  clear HN HH
  have HC := Lib.hid (rdA p _ _ _ hs hR)
  clear hs hR
  go_wp2_with fail
  go_at_call 15
  refine HC.out.mono ?_
  rintro e w1 ⟨_, _, _, rfl, _, hs, rfl, rfl, b1, hR, rfl⟩
  clear HC
  have HC := Lib.hid (rdA p _ _ _ hs hR)
  clear hs hR
  go_wp2_with fail
  go_at_call 15
  refine HC.out.mono ?_
  rintro e w1 ⟨_, _, _, rfl, _, hs, rfl, rfl, b1, hR, rfl⟩
  clear HC
  have HC := Lib.hid (rdB p _ _ hs hR)
  clear hs hR
  go_wp2_with fail
  go_at_call 16
  refine HC.out.mono ?_
  rintro e w1 ⟨_, _, _, rfl, _, hs, rfl, rfl, b1, hR, rfl⟩
  clear HC
  have HC := Lib.hid (rdC p _ _ hs hR)
  clear hs hR
  go_wp2_with fail
  go_at_call 17
  refine HC.out.mono ?_
  rintro e w1 ⟨_, _, _, rfl, _, hs, rfl, rfl, b1, hR, rfl⟩
  clear HC
  have HC := Lib.hid (rdC p _ _ hs hR)
  clear hs hR
  go_wp2_with fail
  go_at_call 17
  refine HC.out.mono ?_
  rintro e w1 ⟨_, _, _, rfl, _, hs, rfl, rfl, b1, hR, rfl⟩
  clear HC
  have hs2 := hs.alloc 32 (pkC m 96 none 0 0 0)
  have HS2 := Lib.hid hs2
  have HR := Lib.hid hR
  clear hs2 hs hR
  have e3 : bits BinOp.and IntKind.u8 160 15 = 0 := by decide +kernel
  have e4 : bits BinOp.and IntKind.u8 160 16 = 0 := by decide +kernel
  have e5 : bits BinOp.and IntKind.u8 160 32 = 32 := by decide +kernel
  go_wp2
  obtain ⟨q9, hq9⟩ : ∃ n, n = w1.heap.size := ⟨_, rfl⟩
  rw [← hq9] at HS2 ⊢
  generalize World.alloc w1 _ = W at HS2 ⊢
  clear hq9
  go_loopw [48] (fun iv wr => iv = .int .u8 0 ∧ wr = W) (fun _ _ => 0)
  case atStart => exact ⟨rfl, rfl⟩
  case round =>
    obtain ⟨rfl, hwr⟩ := hrel
    subst wr
    obtain ⟨hcB, hfB, hltB⟩ := Blk.all (HS2.out.at 0 rfl)
    have hx := HTF.out.1 _ _ (HS2.out.less hl1)
    have hq1 : ((n : Int) + 1 == 0) = false := by rw [beq_eq_false_iff_ne]; omega
    go_wp2
    have hs5 : St J1 (bk q9 32 (pkV m (.slice none 0 0) ((n : Int) + 1)) :: b1 :: bk w.heap.size 32 zP :: M) (W.setCell ⟨q9, 8, none⟩ (.int .i64 ((n : Int) + 1))) := HS2.out.set 8 _
    generalize World.setCell W _ _ = W5 at hs5 ⊢
    clear hcB hfB hltB hx HS2
    obtain ⟨hcB, hfB, hltB⟩ := Blk.all (hs5.at 0 rfl)
    have hlp : ((pl ++ (List.replicate n 0 ++ [UInt8.ofNat (n + 1)])).length : Int) = (pl.length : Int) + ((n : Int) + 1) := by simp
    have HL := Lib.hid (show ∀ k, Calls Tryd.prog 19 #[.pointer (some ⟨p, 0, none⟩)] (W5.drewN k) fun e w' => e = .returned (.int .i64 ((pl.length : Int) + ((n : Int) + 1))) ∧ w' = W5.drewN k from fun k => (rd_left p _ b1 (hs5.swap1.drewN k) HR.out).mono fun _ _ h => ⟨by rw [h.1, hlp], h.2.symm⟩)
    have hq2 : decide ((pl.length : Int) + ((n : Int) + 1) < (n : Int) + 1) = false := decide_eq_false (by omega)
    have HLP := Lib.hid hlp
    clear hlp
    go_quiet ((go_at_call 19; with_reducible exact Calls.quiet_of_same (HL.out _)))
    have hs6 := hs5.drewN nq
    generalize World.drewN W5 _ = W6 at hs6 ⊢
    clear hcB hfB hltB hs5 HL hq2
    obtain ⟨hcB, hfB, hltB⟩ := Blk.all (hs6.at 0 rfl)
    have HT := Lib.hid (trimZ J1 _ W6 n (some ⟨g, o + L, none⟩) (c - L) hs6 (HTF.out.2.mono hl1) (by omega) (by omega))
    have HS6 := Lib.hid hs6
    clear hs6
    go_wp2_with fail
    go_at_call 20
    refine HT.out.mono ?_
    rintro e W7 ⟨rfl, kd, rfl⟩
    have hs7 := HS6.out.drewN kd
    generalize World.drewN W6 _ = W7 at hs7 ⊢
    clear HT HS6 hcB hfB hltB
    obtain ⟨hcB, hfB, hltB⟩ := Blk.all (hs7.at 0 rfl)
    have HS7 := Lib.hid hs7
    clear hs7
    go_wp2
    have hwr : IntKind.i64.wrap (pl.length : Int) = (pl.length : Int) := IntWalk.i64_in _ (by omega)
    have HL := Lib.hid (rd_left p _ b1 (HS7.out.swap1.drew) HR.out)
    rw [HLP.out] at HL
    have HT := Lib.hid (rdD p pl _ b1 (HS7.out.swap1.drew) HR.out (by simp; omega))
    have HW := Lib.hid hwr
    clear hwr
    refine wp_region_held_drew (S := (fun w' => w'.cell? ⟨q9, 8, none⟩ = some (.int .i64 ((n : Int) + 1)))) (by kernel_rfl) (by (try dsimp only); first | exact (Blk.all (HS7.out.drew.at 0 rfl)).1 8 | exact (Blk.all (hs2.at 2 rfl)).1 8 | exact (Blk.all ((hs2.set2 7 _).at 2 rfl)).1 8) (fun hHeld => ?_)
    refine wpAnyH_take (i := 0) (oi := _) (v := ?_) rfl (by kernel_rfl) (by kernel_rfl) (by kernel_rfl) (fun _ _ _ h => h) (Or.inl ⟨by rfl, ?_⟩) (by assumption) ?_
    rotate_left
    · (intro w hSw; (try dsimp only at hSw); go_simp; try with_reducible rfl)
    try simp only [Act.put, List.getElem_toArray, List.getElem_cons_zero, List.getElem_cons_succ, List.setIfInBounds_toArray, List.set_cons_zero, List.set_cons_succ]
    refine wpAnyH_take (i := 1) (oi := _) (v := ?_) rfl (by kernel_rfl) (by kernel_rfl) (by kernel_rfl) (fun _ _ _ h => h) (Or.inl ⟨by rfl, ?_⟩) (by assumption) ?_
    rotate_left
    · (intro w hSw; (try dsimp only at hSw); go_simp; try with_reducible rfl)
    try simp only [Act.put, List.getElem_toArray, List.getElem_cons_zero, List.getElem_cons_succ, List.setIfInBounds_toArray, List.set_cons_zero, List.set_cons_succ]
    refine wpAnyH_take (i := 3) (oi := _) (v := ?_) rfl (by kernel_rfl) (by kernel_rfl) (by kernel_rfl) (fun _ _ _ h => h) (Or.inl ⟨by rfl, ?_⟩) (by assumption) ?_
    rotate_left
    · (intro w hSw; (try dsimp only at hSw); go_simp; try with_reducible rfl)
    try simp only [Act.put, List.getElem_toArray, List.getElem_cons_zero, List.getElem_cons_succ, List.setIfInBounds_toArray, List.set_cons_zero, List.set_cons_succ]
    refine wpAnyH_take (i := 4) (oi := _) (v := ?_) rfl (by kernel_rfl) (by kernel_rfl) (by kernel_rfl) (fun _ _ _ h => h) (Or.inl ⟨by rfl, ?_⟩) (by assumption) ?_
    rotate_left
    · (intro w hSw; (try dsimp only at hSw); go_simp; try with_reducible rfl)
    try simp only [Act.put, List.getElem_toArray, List.getElem_cons_zero, List.getElem_cons_succ, List.setIfInBounds_toArray, List.set_cons_zero, List.set_cons_succ]
    refine wpAnyH_ready (rs := [2]) (by kernel_rfl) (by simp) ?_
    refine AllReadyH.cons (o := _) rfl (fun K hK => ?_) AllReadyH.nil
    go_simp
    refine HL.out.mono ?_; rintro e w2 ⟨rfl, hw2⟩; subst w2
    try clear hHeld
    refine hK.out _ _ (by (try dsimp only); first | exact (Blk.all (HS7.out.drew.at 0 rfl)).1 8 | exact (Blk.all (hs2.at 2 rfl)).1 8 | exact (Blk.all ((hs2.set2 7 _).at 2 rfl)).1 8) (fun hHeld => ?_)
    clear hK K
    try simp only [Act.put, List.getElem_toArray, List.getElem_cons_zero, List.getElem_cons_succ, List.setIfInBounds_toArray, List.set_cons_zero, List.set_cons_succ]
    refine wpAnyH_take (i := 5) (oi := _) (v := ?_) rfl (by kernel_rfl) (by kernel_rfl) (by kernel_rfl) (fun _ _ _ h => h) (Or.inl ⟨by rfl, ?_⟩) (by assumption) ?_
    rotate_left
    · (intro w hSw; (try dsimp only at hSw); go_simp; try with_reducible rfl)
    try simp only [Act.put, List.getElem_toArray, List.getElem_cons_zero, List.getElem_cons_succ, List.setIfInBounds_toArray, List.set_cons_zero, List.set_cons_succ]
    refine wpAnyH_ready (rs := [6]) (by kernel_rfl) (by simp) ?_
    refine AllReadyH.cons (o := _) rfl (fun K hK => ?_) AllReadyH.nil
    go_simp
    rw [HW.out]; refine HT.out.mono ?_; rintro e w3 ⟨_, _, _, rfl, _, hs2, rfl, A2, c2, b2, rfl, hc2, rfl⟩; obtain ⟨hcB, hfB, hltB⟩ := Blk.all (hs2.at 2 rfl)
    try clear hHeld
    refine hK.out _ _ (by (try dsimp only); first | exact (Blk.all (HS7.out.drew.at 0 rfl)).1 8 | exact (Blk.all (hs2.at 2 rfl)).1 8 | exact (Blk.all ((hs2.set2 7 _).at 2 rfl)).1 8) (fun hHeld => ?_)
    clear hK K
    try simp only [Act.put, List.getElem_toArray, List.getElem_cons_zero, List.getElem_cons_succ, List.setIfInBounds_toArray, List.set_cons_zero, List.set_cons_succ]
    refine wpAnyH_take (i := 7) (oi := _) (v := ?_) rfl (by kernel_rfl) (by kernel_rfl) (by kernel_rfl) (fun _ _ _ h => h) (Or.inl ⟨by rfl, ?_⟩) (by assumption) ?_
    rotate_left
    · (intro w hSw; (try dsimp only at hSw); go_simp; try with_reducible rfl)
    try simp only [Act.put, List.getElem_toArray, List.getElem_cons_zero, List.getElem_cons_succ, List.setIfInBounds_toArray, List.set_cons_zero, List.set_cons_succ]
    refine wpAnyH_ready (rs := [8]) (by kernel_rfl) (by simp) ?_
    refine AllReadyH.cons (o := _) rfl (fun K hK => ?_) AllReadyH.nil
    go_simp
    try clear hHeld
    refine hK.out _ _ (by (try dsimp only); first | exact (Blk.all (HS7.out.drew.at 0 rfl)).1 8 | exact (Blk.all (hs2.at 2 rfl)).1 8 | exact (Blk.all ((hs2.set2 7 _).at 2 rfl)).1 8) (fun hHeld => ?_)
    clear hK K
    try simp only [Act.put, List.getElem_toArray, List.getElem_cons_zero, List.getElem_cons_succ, List.setIfInBounds_toArray, List.set_cons_zero, List.set_cons_succ]
    refine wpAnyH_done (by kernel_rfl) ?_ _
    have hs3 : St J1 (row 5 1 (.slice A2 pl.length c2) pl.length (bvs pl) :: b2 :: bk q9 32 (pkC m 96 A2 pl.length c2 (n + 1)) :: bk w.heap.size 32 zP :: M) (w3.setCell ⟨q9, 7, none⟩ (.slice A2 pl.length c2)) := hs2.set2 7 _
    generalize World.setCell w3 _ _ = W3 at hs3 ⊢
    clear hs2 hcB hfB hltB hHeld HL HT HW HS7 HR
    have hb9 : Blk W3 q9 32 (pkC m 96 A2 pl.length c2 (n + 1)) := hs3.at 2 rfl
    obtain ⟨fs, hd⟩ := pkD
    have HG := Lib.hid (goodG m 96 A2 pl.length c2 (n + 1) (by omega) (by omega) (by omega) W3)
    have hs4 := hs3.grow (.cells (pkC m 96 A2 pl.length c2 (n + 1)) 32)
    have hb4 : Blk (W3.alloc (.cells (pkC m 96 A2 pl.length c2 (n + 1)) 32)) q9 32 (pkC m 96 A2 pl.length c2 (n + 1)) := hs4.at 2 rfl
    obtain ⟨hcZ, hfZ, hltZ⟩ := Blk.all (hs4.at 3 rfl)
    have HS4 := Lib.hid hs4
    clear hs3 hs4
    go_wp2_with (first | refine wpList_load_row rfl 32 (.tmp 9) rfl q9 rfl 32 _ (0, 0) _ hb9 hd rfl pkI ?_ | refine wpList_load_row rfl 32 (.tmp 9) rfl q9 rfl 32 _ (0, 0) _ hb4 hd rfl pkI ?_ | (go_at_call 7; refine HG.out.mono ?_; rintro e w2 ⟨rfl, hw2⟩; subst w2))
    refine bodyPost_ret (res6 _ _ m A2 pl.length c2 (n + 1) (.int .i64 0) _ rfl rfl ((setAll HS4.out).at 3 rfl)) rfl ?_
    exact Ret.mk hl1 (setAll HS4.out) ⟨A2, c2, b2, _, _, rfl, rfl⟩
end Go.Proofs.YtalmnbpljeaeaaaDoor
