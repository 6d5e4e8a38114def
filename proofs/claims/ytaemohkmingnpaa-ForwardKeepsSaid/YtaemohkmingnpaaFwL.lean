/- rostrumref17.Flow.Push on a new flow; a nil flow. -/
import Derived.Test.YtaemohkmingnpaaFwH
namespace Go.Proofs.Ytaemohkmingnpaa
open Go.RowKit
set_option linter.unusedSimpArgs false

abbrev rC (codec : ByteArray) (clock kind source seq time offset wanted current : Int) (broken begun : Bool) (last moment picture : Int) : Array Value := #[.string codec, .int .i64 clock, .int .i64 kind, .int .u32 source, .int .u16 seq, .int .u32 time, .int .u32 offset, .int .i64 wanted, .int .i64 current, .bool broken, .bool begun, .int .u16 last, .int .i64 moment, .int .i64 picture]
theorem rKeep {w : World} {q5 p : Nat} {P : Pk} {pv : Value} {codec : ByteArray} {clock kind source seq time offset wanted current : Int} {broken begun : Bool} {last moment picture : Int} (h5 : Blk w q5 49 (pkC P pv)) (hr : Blk w p 71 (rC codec clock kind source seq time offset wanted current broken begun last moment picture)) :
    w.cell? ⟨q5, 0, none⟩ = some (.bool P.marker) ∧ w.cell? ⟨q5, 3, none⟩ = some (.int .u32 P.time) ∧ w.cell? ⟨q5, 7, none⟩ = some pv ∧ w.cell? ⟨p, 2, none⟩ = some (.int .i64 kind) ∧ w.cell? ⟨p, 3, none⟩ = some (.int .u32 source) ∧ w.cell? ⟨p, 4, none⟩ = some (.int .u16 seq) ∧ w.cell? ⟨p, 6, none⟩ = some (.int .u32 offset) :=
  ⟨h5.cell 0, h5.cell 3, h5.cell 7, hr.cell 2, hr.cell 3, hr.cell 4, hr.cell 6⟩
theorem St.alloc1To {I : Img} {M : List Res} {w w2 : World} {a : Res} {t : TypeId} {cs : Array Value} {q : Nat} (h : St I (a :: M) w) (e : w.alloc (.cells cs t) = w2) (hq : q = w.heap.size) : St I (a :: bk q t cs :: M) w2 := by
  subst hq e
  exact (h.alloc t cs).swap1
theorem res26 (w : World) (q : Nat) (P : Pk) (pv : Value) (tmps : Array Value) (ht : tmps[8]? = some (.pointer (some ⟨q, 0, none⟩))) (h : Blk w q 49 (xC P pv)) :
    (results Try.f26 tmps).run Try.prog w = .ok (.agg (xC P pv)) w := by
  have c0 := h.cell 0
  have c1 := h.cell 1
  have c2 := h.cell 2
  have c3 := h.cell 3
  have c4 := h.cell 4
  have c5 := h.cell 5
  have c6 := h.cell 6
  have c7 := h.cell 7
  have c8 := h.cell 8
  simp only [List.getElem?_toArray, List.getElem?_cons_zero, List.getElem?_cons_succ] at c0 c1 c2 c3 c4 c5 c6 c7 c8
  simp [results, Try.results26, go_sem, ht, c0, c1, c2, c3, c4, c5, c6, c7, c8]
theorem res15 (w : World) (q : Nat) (P : Pk) (pv : Value) (tmps : Array Value) (x y : Value) (ht : tmps[8]? = some (.pointer (some ⟨q, 0, none⟩))) (hx : tmps[9]? = some x) (hy : tmps[10]? = some y) (h : Blk w q 49 (xC P pv)) :
    (results Try.f15 tmps).run Try.prog w = .ok (.tuple #[.agg (xC P pv), x, y]) w := by
  have c0 := h.cell 0
  have c1 := h.cell 1
  have c2 := h.cell 2
  have c3 := h.cell 3
  have c4 := h.cell 4
  have c5 := h.cell 5
  have c6 := h.cell 6
  have c7 := h.cell 7
  have c8 := h.cell 8
  simp only [List.getElem?_toArray, List.getElem?_cons_zero, List.getElem?_cons_succ] at c0 c1 c2 c3 c4 c5 c6 c7 c8
  simp [results, Try.results15, go_sem, ht, hx, hy, c0, c1, c2, c3, c4, c5, c6, c7, c8]
theorem nilChoose (w : World) (n : Int) : Calls Try.prog 12 #[.pointer none, .int .i64 n] w fun e w' => e = .returned (.tuple #[]) ∧ w' = w := by
  go_enter Try.func12, Try.ntmps12
  go_wp2
  go_returns
  exact ⟨rfl, rfl⟩
theorem nilLayer (w : World) : Calls Try.prog 16 #[.pointer none] w fun e w' => e = .returned (.tuple #[.int .i64 0, .int .i64 0]) ∧ w' = w := by
  go_enter Try.func16, Try.ntmps16
  go_wp2
  go_returns
  exact ⟨rfl, rfl⟩
set_option maxRecDepth 8000 in
set_option maxHeartbeats 4000000 in
theorem nilPush (I : Img) (M : List Res) (w : World) (P : Pk) (pv : Value) (layer now : Int) (hst : St I M w) :
    Calls Try.prog 11 #[.pointer none, .int .i64 layer, .agg (pkC P pv), .int .i64 now] w (Ret I (fun v J M' => I = J ∧ v = .tuple #[.agg zeroC, .bool false, .bool false] ∧ M' = M)) := by
  have hst1 := (hst.alloc 38 (pkC P pv)).alloc 38 zeroC
  simp only [World.size_alloc] at hst1
  clear hst
  go_enter Try.func11, Try.ntmps11
  go_upto_region 2 with fail
  generalize World.alloc (World.alloc w _) _ = w1 at hst1 ⊢
  have hs8 : Blk w1 (w.heap.size + 1) 38 zeroC := hst1.at 0 rfl
  have HH := Lib.hid hst1
  clear hst1
  go_upto_region 99 with (refine wpList_store_row rfl 38 (.tmp 8) (.tmp _) rfl (w.heap.size + 1) zeroC rfl rfl 38 _ hs8 pkI rfl zeroOne ?_)
  refine bodyPost_ret (res11 _ _ zeroP none 0 0 _ _ _ rfl rfl rfl ((HH.out.setR zeroC).at 0 rfl)) rfl ?_
  exact Ret.mk (.refl I) (HH.out.setR zeroC).drop.drop ⟨rfl, rfl, rfl⟩
def RCut (I : Img) (M : List Res) (p q5 q8 q9 : Nat) (codec : ByteArray) (clock kind source seq time offset wanted current : Int) (broken begun : Bool) (last moment : Int) (P : Pk) (pv : Value) (wx : World) : Prop :=
  ∃ J P2 A2 c2 n2 picture, I.le J ∧ P2.seq = seq ∧ St J (bk q9 49 (xC P2 (.slice A2 n2 c2)) :: bk q8 49 zeroC :: bk q5 49 (pkC P pv) :: bk p 71 (rC codec clock kind source seq time offset wanted current broken begun last moment picture) :: M) wx
theorem rKeep2 {w : World} {q5 p : Nat} {P : Pk} {pv : Value} {codec : ByteArray} {clock kind source seq time offset wanted current : Int} {broken begun : Bool} {last moment picture : Int} (h5 : Blk w q5 49 (pkC P pv)) (hr : Blk w p 71 (rC codec clock kind source seq time offset wanted current broken begun last moment picture)) :
    w.cell? ⟨q5, 7, none⟩ = some pv ∧ w.cell? ⟨p, 13, none⟩ = some (.int .i64 picture) :=
  ⟨h5.cell 7, hr.cell 13⟩
theorem rKeep3 {w : World} {q5 q9 : Nat} {P P2 : Pk} {pv pv2 : Value} (h5 : Blk w q5 49 (pkC P pv)) (hr : Blk w q9 49 (xC P2 pv2)) :
    w.cell? ⟨q5, 2, none⟩ = some (.int .u16 P.seq) ∧ w.cell? ⟨q9, 3, none⟩ = some (.int .u32 P2.time) :=
  ⟨h5.cell 2, hr.cell 3⟩
set_option maxRecDepth 8000 in
set_option maxHeartbeats 8000000 in
theorem sendRC (I : Img) (M : List Res) (w : World) (p : Nat) (codec : ByteArray) (clock kind source seq time offset wanted current : Int) (broken : Bool) (last moment : Int) (P : Pk) (A : Option Addr) (c : Nat) (bs : List UInt8) (begins : Bool) (now : Int)
    (hst : St I (bk p 71 (rC codec clock kind source seq time offset wanted current broken false last moment 0) :: M) w) (hb : Byts I A bs) (hl : bs.length ≤ 140737488351232) :
    Calls Try.prog 26 #[.pointer (some ⟨p, 0, none⟩), .agg (pkC P (.slice A bs.length c)), .bool begins, .int .i64 now] w (Ret I (fun v _ M' => ∃ P2 A2 c2 n2, v = .agg (xC P2 (.slice A2 n2 c2)) ∧ P2.seq = seq ∧ M' = M)) := by
  have HB := Lib.hid hb
  obtain ⟨i0, hi, hz0, hz1, hz2⟩ := info_parts infoU8
  obtain ⟨hc, hf, hlt⟩ := Blk.all hst.head
  have hst1 := ((hst.alloc 49 (pkC P (.slice A bs.length c))).alloc 49 zeroC).nil (e := 5) (size := 1)
  simp only [World.size_alloc] at hst1
  clear hst hb
  go_enter Try.func26, Try.ntmps26
  go_upto_region 1 with fail
  generalize World.alloc (World.alloc w _) _ = W at hst1 ⊢
  clear hc hf hlt
  go_cut [9] (fun v wx => ∃ q9, v = .pointer (some ⟨q9, 0, none⟩) ∧ ∃ A2 c2, St I (bk q9 49 (xC ⟨P.marker, kind, seq, IntKind.u32.wrap (P.time + offset), source, .slice none 0 0, .slice none 0 0, 0⟩ (.slice A2 bs.length c2)) :: bk (w.heap.size + 1) 49 zeroC :: bk w.heap.size 49 (pkC P (.slice A bs.length c)) :: bk p 71 (rC codec clock kind source seq time offset wanted current broken false last moment 0) :: M) wx)
  case first =>
    obtain ⟨hc, hf, hlt⟩ := Blk.all (hst1.at 3 rfl)
    have hlt' : p < W.drew.heap.size := hlt
    have hs := hst1.drew
    clear hst1 hc hf
    refine wp_region_held_drew (S := (fun w' => w'.cell? ⟨w.heap.size, 0, none⟩ = some (.bool P.marker) ∧ w'.cell? ⟨w.heap.size, 3, none⟩ = some (.int .u32 P.time) ∧ w'.cell? ⟨w.heap.size, 7, none⟩ = some (.slice A bs.length c) ∧ w'.cell? ⟨p, 2, none⟩ = some (.int .i64 kind) ∧ w'.cell? ⟨p, 3, none⟩ = some (.int .u32 source) ∧ w'.cell? ⟨p, 4, none⟩ = some (.int .u16 seq) ∧ w'.cell? ⟨p, 6, none⟩ = some (.int .u32 offset))) (by kernel_rfl) (by (try dsimp only); first | exact rKeep (hs.at 2 rfl) (hs.at 3 rfl) | exact rKeep (hs.at 3 rfl) (hs.at 4 rfl) | exact rKeep ((hs.grow _).at 2 rfl) ((hs.grow _).at 3 rfl) | exact rKeep ((hs.grow _).at 3 rfl) ((hs.grow _).at 4 rfl)) (fun hHeld => ?_)
    generalize World.drew W = W at hs hHeld ⊢
    refine wpAnyH_take (i := 0) (oi := _) (v := ?_) rfl (by kernel_rfl) (by kernel_rfl) (by kernel_rfl) (fun _ _ _ h => h) (Or.inl ⟨by rfl, ?_⟩) (by assumption) ?_
    rotate_left
    · (intro w hSw; (try dsimp only at hSw); go_simp; try with_reducible rfl)
    try simp only [Act.put, List.getElem_toArray, List.getElem_cons_zero, List.getElem_cons_succ, List.setIfInBounds_toArray, List.set_cons_zero, List.set_cons_succ]
    refine wpAnyH_take (i := 1) (oi := _) (v := ?_) rfl (by kernel_rfl) (by kernel_rfl) (by kernel_rfl) (fun _ _ _ h => h) (Or.inl ⟨by rfl, ?_⟩) (by assumption) ?_
    rotate_left
    · (intro w hSw; (try dsimp only at hSw); go_simp; try with_reducible rfl)
    try simp only [Act.put, List.getElem_toArray, List.getElem_cons_zero, List.getElem_cons_succ, List.setIfInBounds_toArray, List.set_cons_zero, List.set_cons_succ]
    refine wpAnyH_take (i := 2) (oi := _) (v := ?_) rfl (by kernel_rfl) (by kernel_rfl) (by kernel_rfl) (fun _ _ _ h => h) (Or.inl ⟨by rfl, ?_⟩) (by assumption) ?_
    rotate_left
    · (intro w hSw; (try dsimp only at hSw); go_simp; try with_reducible rfl)
    try simp only [Act.put, List.getElem_toArray, List.getElem_cons_zero, List.getElem_cons_succ, List.setIfInBounds_toArray, List.set_cons_zero, List.set_cons_succ]
    refine wpAnyH_take (i := 3) (oi := _) (v := ?_) rfl (by kernel_rfl) (by kernel_rfl) (by kernel_rfl) (fun _ _ _ h => h) (Or.inl ⟨by rfl, ?_⟩) (by assumption) ?_
    rotate_left
    · (intro w hSw; (try dsimp only at hSw); go_simp; try with_reducible rfl)
    try simp only [Act.put, List.getElem_toArray, List.getElem_cons_zero, List.getElem_cons_succ, List.setIfInBounds_toArray, List.set_cons_zero, List.set_cons_succ]
    refine wpAnyH_take (i := 4) (oi := _) (v := ?_) rfl (by kernel_rfl) (by kernel_rfl) (by kernel_rfl) (fun _ _ _ h => h) (Or.inl ⟨by rfl, ?_⟩) (by assumption) ?_
    rotate_left
    · (intro w hSw; (try dsimp only at hSw); go_simp; try with_reducible rfl)
    try simp only [Act.put, List.getElem_toArray, List.getElem_cons_zero, List.getElem_cons_succ, List.setIfInBounds_toArray, List.set_cons_zero, List.set_cons_succ]
    refine wpAnyH_take (i := 5) (oi := _) (v := ?_) rfl (by kernel_rfl) (by kernel_rfl) (by kernel_rfl) (fun _ _ _ h => h) (Or.inl ⟨by rfl, ?_⟩) (by assumption) ?_
    rotate_left
    · (intro w hSw; (try dsimp only at hSw); go_simp; try with_reducible rfl)
    try simp only [Act.put, List.getElem_toArray, List.getElem_cons_zero, List.getElem_cons_succ, List.setIfInBounds_toArray, List.set_cons_zero, List.set_cons_succ]
    refine wpAnyH_take (i := 6) (oi := _) (v := ?_) rfl (by kernel_rfl) (by kernel_rfl) (by kernel_rfl) (fun _ _ _ h => h) (Or.inl ⟨by rfl, ?_⟩) (by assumption) ?_
    rotate_left
    · (intro w hSw; (try dsimp only at hSw); go_simp; try with_reducible rfl)
    try simp only [Act.put, List.getElem_toArray, List.getElem_cons_zero, List.getElem_cons_succ, List.setIfInBounds_toArray, List.set_cons_zero, List.set_cons_succ]
    refine wpAnyH_take (i := 7) (oi := _) (v := ?_) rfl (by kernel_rfl) (by kernel_rfl) (by kernel_rfl) (fun _ _ _ h => h) (Or.inl ⟨by rfl, ?_⟩) (by assumption) ?_
    rotate_left
    · (intro w hSw; (try dsimp only at hSw); go_simp; try with_reducible rfl)
    try simp only [Act.put, List.getElem_toArray, List.getElem_cons_zero, List.getElem_cons_succ, List.setIfInBounds_toArray, List.set_cons_zero, List.set_cons_succ]
    refine wpAnyH_take (i := 8) (oi := _) (v := ?_) rfl (by kernel_rfl) (by kernel_rfl) (by kernel_rfl) (fun _ _ _ h => h) (Or.inl ⟨by rfl, ?_⟩) (by assumption) ?_
    rotate_left
    · (intro w hSw; (try dsimp only at hSw); go_simp; try with_reducible rfl)
    try simp only [Act.put, List.getElem_toArray, List.getElem_cons_zero, List.getElem_cons_succ, List.setIfInBounds_toArray, List.set_cons_zero, List.set_cons_succ]
    refine wpAnyH_take (i := 9) (oi := _) (v := ?_) rfl (by kernel_rfl) (by kernel_rfl) (by kernel_rfl) (fun _ _ _ h => h) (Or.inl ⟨by rfl, ?_⟩) (by assumption) ?_
    rotate_left
    · (intro w hSw; (try dsimp only at hSw); go_simp; try with_reducible rfl)
    try simp only [Act.put, List.getElem_toArray, List.getElem_cons_zero, List.getElem_cons_succ, List.setIfInBounds_toArray, List.set_cons_zero, List.set_cons_succ]
    refine wpAnyH_take (i := 10) (oi := _) (v := ?_) rfl (by kernel_rfl) (by kernel_rfl) (by kernel_rfl) (fun _ _ _ h => h) (Or.inl ⟨by rfl, ?_⟩) (by assumption) ?_
    rotate_left
    · (intro w hSw; (try dsimp only at hSw); go_simp; try with_reducible rfl)
    try simp only [Act.put, List.getElem_toArray, List.getElem_cons_zero, List.getElem_cons_succ, List.setIfInBounds_toArray, List.set_cons_zero, List.set_cons_succ]
    refine wpAnyH_take (i := 11) (oi := _) (v := ?_) rfl (by kernel_rfl) (by kernel_rfl) (by kernel_rfl) (fun _ _ _ h => h) (Or.inl ⟨by rfl, ?_⟩) (by assumption) ?_
    rotate_left
    · (intro w hSw; (try dsimp only at hSw); go_simp; try with_reducible rfl)
    try simp only [Act.put, List.getElem_toArray, List.getElem_cons_zero, List.getElem_cons_succ, List.setIfInBounds_toArray, List.set_cons_zero, List.set_cons_succ]
    refine wpAnyH_take (i := 12) (oi := _) (v := ?_) rfl (by kernel_rfl) (by kernel_rfl) (by kernel_rfl) (fun _ _ _ h => h) (Or.inl ⟨by rfl, ?_⟩) (by assumption) ?_
    rotate_left
    · (intro w hSw; (try dsimp only at hSw); go_simp; try with_reducible rfl)
    try simp only [Act.put, List.getElem_toArray, List.getElem_cons_zero, List.getElem_cons_succ, List.setIfInBounds_toArray, List.set_cons_zero, List.set_cons_succ]
    refine wpAnyH_take (i := 13) (oi := _) (v := ?_) rfl (by kernel_rfl) (by kernel_rfl) (by kernel_rfl) (fun _ _ _ h => h) (Or.inl ⟨by rfl, ?_⟩) (by assumption) ?_
    rotate_left
    · (intro w hSw; (try dsimp only at hSw); go_simp; try with_reducible rfl)
    try simp only [Act.put, List.getElem_toArray, List.getElem_cons_zero, List.getElem_cons_succ, List.setIfInBounds_toArray, List.set_cons_zero, List.set_cons_succ]
    refine wpAnyH_take (i := 14) (oi := _) (v := ?_) rfl (by kernel_rfl) (by kernel_rfl) (by kernel_rfl) (fun _ _ _ h => h) (Or.inl ⟨by rfl, ?_⟩) (by assumption) ?_
    rotate_left
    · (intro w hSw; (try dsimp only at hSw); go_simp; try with_reducible rfl)
    try simp only [Act.put, List.getElem_toArray, List.getElem_cons_zero, List.getElem_cons_succ, List.setIfInBounds_toArray, List.set_cons_zero, List.set_cons_succ]
    refine wpAnyH_take (i := 15) (oi := _) (v := ?_) rfl (by kernel_rfl) (by kernel_rfl) (by kernel_rfl) (fun _ _ _ h => h) (Or.inl ⟨by rfl, ?_⟩) (by assumption) ?_
    rotate_left
    · (intro w hSw; (try dsimp only at hSw); go_simp; try with_reducible rfl)
    try simp only [Act.put, List.getElem_toArray, List.getElem_cons_zero, List.getElem_cons_succ, List.setIfInBounds_toArray, List.set_cons_zero, List.set_cons_succ]
    refine wpAnyH_take (i := 16) (oi := _) (v := ?_) rfl (by kernel_rfl) (by kernel_rfl) (by kernel_rfl) (fun _ _ _ h => h) (Or.inl ⟨by rfl, ?_⟩) (by assumption) ?_
    rotate_left
    · (intro w hSw; (try dsimp only at hSw); go_simp; try with_reducible rfl)
    try simp only [Act.put, List.getElem_toArray, List.getElem_cons_zero, List.getElem_cons_succ, List.setIfInBounds_toArray, List.set_cons_zero, List.set_cons_succ]
    refine wpAnyH_take (i := 17) (oi := _) (v := ?_) rfl (by kernel_rfl) (by kernel_rfl) (by kernel_rfl) (fun _ _ _ h => h) (Or.inl ⟨by rfl, ?_⟩) (by assumption) ?_
    rotate_left
    · (intro w hSw; (try dsimp only at hSw); go_simp; try with_reducible rfl)
    try simp only [Act.put, List.getElem_toArray, List.getElem_cons_zero, List.getElem_cons_succ, List.setIfInBounds_toArray, List.set_cons_zero, List.set_cons_succ]
    refine wpAnyH_take (i := 18) (oi := _) (v := ?_) rfl (by kernel_rfl) (by kernel_rfl) (by kernel_rfl) (fun _ _ _ h => h) (Or.inl ⟨by rfl, ?_⟩) (by assumption) ?_
    rotate_left
    · (intro w hSw; (try dsimp only at hSw); go_simp; try with_reducible rfl)
    try simp only [Act.put, List.getElem_toArray, List.getElem_cons_zero, List.getElem_cons_succ, List.setIfInBounds_toArray, List.set_cons_zero, List.set_cons_succ]
    refine wpAnyH_take (i := 19) (oi := _) (v := ?_) rfl (by kernel_rfl) (by kernel_rfl) (by kernel_rfl) (fun _ _ _ h => h) (Or.inl ⟨by rfl, ?_⟩) (by assumption) ?_
    rotate_left
    · (intro w hSw; (try dsimp only at hSw); go_simp; try with_reducible rfl)
    try simp only [Act.put, List.getElem_toArray, List.getElem_cons_zero, List.getElem_cons_succ, List.setIfInBounds_toArray, List.set_cons_zero, List.set_cons_succ]
    refine wpAnyH_take (i := 20) (oi := _) (v := ?_) rfl (by kernel_rfl) (by kernel_rfl) (by kernel_rfl) (fun _ _ _ h => h) (Or.inl ⟨by rfl, ?_⟩) (by assumption) ?_
    rotate_left
    · (intro w hSw; (try dsimp only at hSw); go_simp; try with_reducible rfl)
    try simp only [Act.put, List.getElem_toArray, List.getElem_cons_zero, List.getElem_cons_succ, List.setIfInBounds_toArray, List.set_cons_zero, List.set_cons_succ]
    refine wpAnyH_take (i := 22) (oi := _) (v := ?_) rfl (by kernel_rfl) (by kernel_rfl) (by kernel_rfl) (fun _ _ _ h => h) (Or.inl ⟨by rfl, ?_⟩) (by assumption) ?_
    rotate_left
    · (intro w hSw; (try dsimp only at hSw); go_simp; try with_reducible rfl)
    try simp only [Act.put, List.getElem_toArray, List.getElem_cons_zero, List.getElem_cons_succ, List.setIfInBounds_toArray, List.set_cons_zero, List.set_cons_succ]
    refine wpAnyH_take (i := 23) (oi := _) (v := ?_) rfl (by kernel_rfl) (by kernel_rfl) (by kernel_rfl) (fun _ _ _ h => h) (Or.inl ⟨by rfl, ?_⟩) (by assumption) ?_
    rotate_left
    · (intro w hSw; (try dsimp only at hSw); go_simp; try with_reducible rfl)
    try simp only [Act.put, List.getElem_toArray, List.getElem_cons_zero, List.getElem_cons_succ, List.setIfInBounds_toArray, List.set_cons_zero, List.set_cons_succ]
    refine wpAnyH_ready (rs := [21, 26]) (by kernel_rfl) (by simp) ?_
    refine (AllReadyH.cons (o := _) rfl (fun K hK => ?_) (AllReadyH.cons (o := _) rfl (fun K hK => ?_) AllReadyH.nil))
    · skip
      go_simp
      try clear hHeld
      refine hK.out _ _ (by (try dsimp only); first | exact rKeep (hs.at 2 rfl) (hs.at 3 rfl) | exact rKeep (hs.at 3 rfl) (hs.at 4 rfl) | exact rKeep ((hs.grow _).at 2 rfl) ((hs.grow _).at 3 rfl) | exact rKeep ((hs.grow _).at 3 rfl) ((hs.grow _).at 4 rfl)) (fun hHeld => ?_)
      clear hK K
      try simp only [Act.put, List.getElem_toArray, List.getElem_cons_zero, List.getElem_cons_succ, List.setIfInBounds_toArray, List.set_cons_zero, List.set_cons_succ]
      generalize hw : World.alloc W _ = W at hHeld ⊢
      replace hs := hs.drop.lit0To hw
      clear hw
      refine wpAnyH_ready (rs := [24, 26]) (by kernel_rfl) (by simp) ?_
      refine (AllReadyH.cons (o := _) rfl (fun K hK => ?_) (AllReadyH.cons (o := _) rfl (fun K hK => ?_) AllReadyH.nil))
      · skip
        refine step_append_src _ (by rfl) _ _ 34 34 (by rfl) 0 5 i0 (.int .u8 0) 1 1 Try.underlying34 hi hz0 hz1 hz2 rfl _ 0 [] (by rfl) hs.head (.slice A bs.length c) bs.length (bvs bs) (by rfl) (HB.out.src hs Try.underlying34 c) (by unfold maxLen; omega) (by omega) (Nat.zero_le _) ?_
        intro v' W hown' hgrow hat
        have hown2 : W.ownsRow 0 5 1 v' bs.length (bvs bs) := by simpa using hown'
        obtain ⟨A2, c2, rfl⟩ := own_form hown2
        replace hs := hs.grown hgrow hown2 hat
        clear hown' hown2 hgrow hat
        try clear hHeld
        refine hK.out _ _ (by (try dsimp only); first | exact rKeep (hs.at 2 rfl) (hs.at 3 rfl) | exact rKeep (hs.at 3 rfl) (hs.at 4 rfl) | exact rKeep ((hs.grow _).at 2 rfl) ((hs.grow _).at 3 rfl) | exact rKeep ((hs.grow _).at 3 rfl) ((hs.grow _).at 4 rfl)) (fun hHeld => ?_)
        clear hK K
        try simp only [Act.put, List.getElem_toArray, List.getElem_cons_zero, List.getElem_cons_succ, List.setIfInBounds_toArray, List.set_cons_zero, List.set_cons_succ]
        refine wpAnyH_take (i := 25) (oi := _) (v := ?_) rfl (by kernel_rfl) (by kernel_rfl) (by kernel_rfl) (fun _ _ _ h => h) (Or.inl ⟨by rfl, ?_⟩) (by assumption) ?_
        rotate_left
        · (intro w hSw; (try dsimp only at hSw); go_simp; try with_reducible rfl)
        try simp only [Act.put, List.getElem_toArray, List.getElem_cons_zero, List.getElem_cons_succ, List.setIfInBounds_toArray, List.set_cons_zero, List.set_cons_succ]
        refine wpAnyH_ready (rs := [26]) (by kernel_rfl) (by simp) ?_
        refine (AllReadyH.cons (o := _) rfl (fun K hK => ?_) AllReadyH.nil)
        go_simp
        obtain ⟨xq, hxq⟩ : ∃ n, n = W.heap.size := ⟨_, rfl⟩
        rw [← hxq]
        try clear hHeld
        refine hK.out _ _ (by (try dsimp only); first | exact rKeep (hs.at 2 rfl) (hs.at 3 rfl) | exact rKeep (hs.at 3 rfl) (hs.at 4 rfl) | exact rKeep ((hs.grow _).at 2 rfl) ((hs.grow _).at 3 rfl) | exact rKeep ((hs.grow _).at 3 rfl) ((hs.grow _).at 4 rfl)) (fun hHeld => ?_)
        clear hK K
        try simp only [Act.put, List.getElem_toArray, List.getElem_cons_zero, List.getElem_cons_succ, List.setIfInBounds_toArray, List.set_cons_zero, List.set_cons_succ]
        generalize hw : World.alloc W _ = W at hHeld ⊢
        replace hs := hs.alloc1To hw hxq
        clear hw hxq
        refine wpAnyH_ready (rs := [27]) (by kernel_rfl) (by simp) ?_
        refine (AllReadyH.cons (o := _) rfl (fun K hK => ?_) AllReadyH.nil)
        refine step_store_row (by rfl) 49 _ _ (by rfl) xq (xC ⟨P.marker, kind, seq, IntKind.u32.wrap (P.time + offset), source, .slice none 0 0, .slice none 0 0, 0⟩ (.slice A2 bs.length c2)) (by rfl) (by rfl) 49 _ (hs.at 1 rfl) pkI49 rfl (by simp [Value.oneCell']) ?_
        replace hs := hs.setR1 (xC ⟨P.marker, kind, seq, IntKind.u32.wrap (P.time + offset), source, .slice none 0 0, .slice none 0 0, 0⟩ (.slice A2 bs.length c2))
        try clear hHeld
        refine hK.out _ _ (by (try dsimp only); first | exact rKeep (hs.at 2 rfl) (hs.at 3 rfl) | exact rKeep (hs.at 3 rfl) (hs.at 4 rfl) | exact rKeep ((hs.grow _).at 2 rfl) ((hs.grow _).at 3 rfl) | exact rKeep ((hs.grow _).at 3 rfl) ((hs.grow _).at 4 rfl)) (fun hHeld => ?_)
        clear hK K
        try simp only [Act.put, List.getElem_toArray, List.getElem_cons_zero, List.getElem_cons_succ, List.setIfInBounds_toArray, List.set_cons_zero, List.set_cons_succ]
        refine wpAnyH_done (by kernel_rfl) ?_ _
        go_wp2
        go_meet
        exact ⟨xq, rfl, A2, c2, hs.drop⟩
      · skip
        go_simp
        obtain ⟨xq, hxq⟩ : ∃ n, n = W.heap.size := ⟨_, rfl⟩
        rw [← hxq]
        try clear hHeld
        refine hK.out _ _ (by (try dsimp only); first | exact rKeep (hs.at 2 rfl) (hs.at 3 rfl) | exact rKeep (hs.at 3 rfl) (hs.at 4 rfl) | exact rKeep ((hs.grow _).at 2 rfl) ((hs.grow _).at 3 rfl) | exact rKeep ((hs.grow _).at 3 rfl) ((hs.grow _).at 4 rfl)) (fun hHeld => ?_)
        clear hK K
        try simp only [Act.put, List.getElem_toArray, List.getElem_cons_zero, List.getElem_cons_succ, List.setIfInBounds_toArray, List.set_cons_zero, List.set_cons_succ]
        generalize hw : World.alloc W _ = W at hHeld ⊢
        replace hs := hs.alloc1To hw hxq
        clear hw hxq
        refine wpAnyH_ready (rs := [24]) (by kernel_rfl) (by simp) ?_
        refine (AllReadyH.cons (o := _) rfl (fun K hK => ?_) AllReadyH.nil)
        refine step_append_src _ (by rfl) _ _ 34 34 (by rfl) 0 5 i0 (.int .u8 0) 1 1 Try.underlying34 hi hz0 hz1 hz2 rfl _ 0 [] (by rfl) hs.head (.slice A bs.length c) bs.length (bvs bs) (by rfl) (HB.out.src hs Try.underlying34 c) (by unfold maxLen; omega) (by omega) (Nat.zero_le _) ?_
        intro v' W hown' hgrow hat
        have hown2 : W.ownsRow 0 5 1 v' bs.length (bvs bs) := by simpa using hown'
        obtain ⟨A2, c2, rfl⟩ := own_form hown2
        replace hs := hs.grown hgrow hown2 hat
        clear hown' hown2 hgrow hat
        try clear hHeld
        refine hK.out _ _ (by (try dsimp only); first | exact rKeep (hs.at 2 rfl) (hs.at 3 rfl) | exact rKeep (hs.at 3 rfl) (hs.at 4 rfl) | exact rKeep ((hs.grow _).at 2 rfl) ((hs.grow _).at 3 rfl) | exact rKeep ((hs.grow _).at 3 rfl) ((hs.grow _).at 4 rfl)) (fun hHeld => ?_)
        clear hK K
        try simp only [Act.put, List.getElem_toArray, List.getElem_cons_zero, List.getElem_cons_succ, List.setIfInBounds_toArray, List.set_cons_zero, List.set_cons_succ]
        refine wpAnyH_take (i := 25) (oi := _) (v := ?_) rfl (by kernel_rfl) (by kernel_rfl) (by kernel_rfl) (fun _ _ _ h => h) (Or.inl ⟨by rfl, ?_⟩) (by assumption) ?_
        rotate_left
        · (intro w hSw; (try dsimp only at hSw); go_simp; try with_reducible rfl)
        try simp only [Act.put, List.getElem_toArray, List.getElem_cons_zero, List.getElem_cons_succ, List.setIfInBounds_toArray, List.set_cons_zero, List.set_cons_succ]
        refine wpAnyH_ready (rs := [27]) (by kernel_rfl) (by simp) ?_
        refine (AllReadyH.cons (o := _) rfl (fun K hK => ?_) AllReadyH.nil)
        refine step_store_row (by rfl) 49 _ _ (by rfl) xq (xC ⟨P.marker, kind, seq, IntKind.u32.wrap (P.time + offset), source, .slice none 0 0, .slice none 0 0, 0⟩ (.slice A2 bs.length c2)) (by rfl) (by rfl) 49 _ (hs.at 1 rfl) pkI49 rfl (by simp [Value.oneCell']) ?_
        replace hs := hs.setR1 (xC ⟨P.marker, kind, seq, IntKind.u32.wrap (P.time + offset), source, .slice none 0 0, .slice none 0 0, 0⟩ (.slice A2 bs.length c2))
        try clear hHeld
        refine hK.out _ _ (by (try dsimp only); first | exact rKeep (hs.at 2 rfl) (hs.at 3 rfl) | exact rKeep (hs.at 3 rfl) (hs.at 4 rfl) | exact rKeep ((hs.grow _).at 2 rfl) ((hs.grow _).at 3 rfl) | exact rKeep ((hs.grow _).at 3 rfl) ((hs.grow _).at 4 rfl)) (fun hHeld => ?_)
        clear hK K
        try simp only [Act.put, List.getElem_toArray, List.getElem_cons_zero, List.getElem_cons_succ, List.setIfInBounds_toArray, List.set_cons_zero, List.set_cons_succ]
        refine wpAnyH_done (by kernel_rfl) ?_ _
        go_wp2
        go_meet
        exact ⟨xq, rfl, A2, c2, hs.drop⟩
    · skip
      go_simp
      obtain ⟨xq, hxq⟩ : ∃ n, n = W.heap.size := ⟨_, rfl⟩
      rw [← hxq]
      try clear hHeld
      refine hK.out _ _ (by (try dsimp only); first | exact rKeep (hs.at 2 rfl) (hs.at 3 rfl) | exact rKeep (hs.at 3 rfl) (hs.at 4 rfl) | exact rKeep ((hs.grow _).at 2 rfl) ((hs.grow _).at 3 rfl) | exact rKeep ((hs.grow _).at 3 rfl) ((hs.grow _).at 4 rfl)) (fun hHeld => ?_)
      clear hK K
      try simp only [Act.put, List.getElem_toArray, List.getElem_cons_zero, List.getElem_cons_succ, List.setIfInBounds_toArray, List.set_cons_zero, List.set_cons_succ]
      generalize hw : World.alloc W _ = W at hHeld ⊢
      replace hs := hs.alloc1To hw hxq
      clear hw hxq
      refine wpAnyH_ready (rs := [21]) (by kernel_rfl) (by simp) ?_
      refine (AllReadyH.cons (o := _) rfl (fun K hK => ?_) AllReadyH.nil)
      go_simp
      try clear hHeld
      refine hK.out _ _ (by (try dsimp only); first | exact rKeep (hs.at 2 rfl) (hs.at 3 rfl) | exact rKeep (hs.at 3 rfl) (hs.at 4 rfl) | exact rKeep ((hs.grow _).at 2 rfl) ((hs.grow _).at 3 rfl) | exact rKeep ((hs.grow _).at 3 rfl) ((hs.grow _).at 4 rfl)) (fun hHeld => ?_)
      clear hK K
      try simp only [Act.put, List.getElem_toArray, List.getElem_cons_zero, List.getElem_cons_succ, List.setIfInBounds_toArray, List.set_cons_zero, List.set_cons_succ]
      generalize hw : World.alloc W _ = W at hHeld ⊢
      replace hs := hs.drop.lit0To hw
      clear hw
      refine wpAnyH_ready (rs := [24]) (by kernel_rfl) (by simp) ?_
      refine (AllReadyH.cons (o := _) rfl (fun K hK => ?_) AllReadyH.nil)
      refine step_append_src _ (by rfl) _ _ 34 34 (by rfl) 0 5 i0 (.int .u8 0) 1 1 Try.underlying34 hi hz0 hz1 hz2 rfl _ 0 [] (by rfl) hs.head (.slice A bs.length c) bs.length (bvs bs) (by rfl) (HB.out.src hs Try.underlying34 c) (by unfold maxLen; omega) (by omega) (Nat.zero_le _) ?_
      intro v' W hown' hgrow hat
      have hown2 : W.ownsRow 0 5 1 v' bs.length (bvs bs) := by simpa using hown'
      obtain ⟨A2, c2, rfl⟩ := own_form hown2
      replace hs := hs.grown hgrow hown2 hat
      clear hown' hown2 hgrow hat
      try clear hHeld
      refine hK.out _ _ (by (try dsimp only); first | exact rKeep (hs.at 2 rfl) (hs.at 3 rfl) | exact rKeep (hs.at 3 rfl) (hs.at 4 rfl) | exact rKeep ((hs.grow _).at 2 rfl) ((hs.grow _).at 3 rfl) | exact rKeep ((hs.grow _).at 3 rfl) ((hs.grow _).at 4 rfl)) (fun hHeld => ?_)
      clear hK K
      try simp only [Act.put, List.getElem_toArray, List.getElem_cons_zero, List.getElem_cons_succ, List.setIfInBounds_toArray, List.set_cons_zero, List.set_cons_succ]
      refine wpAnyH_take (i := 25) (oi := _) (v := ?_) rfl (by kernel_rfl) (by kernel_rfl) (by kernel_rfl) (fun _ _ _ h => h) (Or.inl ⟨by rfl, ?_⟩) (by assumption) ?_
      rotate_left
      · (intro w hSw; (try dsimp only at hSw); go_simp; try with_reducible rfl)
      try simp only [Act.put, List.getElem_toArray, List.getElem_cons_zero, List.getElem_cons_succ, List.setIfInBounds_toArray, List.set_cons_zero, List.set_cons_succ]
      refine wpAnyH_ready (rs := [27]) (by kernel_rfl) (by simp) ?_
      refine (AllReadyH.cons (o := _) rfl (fun K hK => ?_) AllReadyH.nil)
      refine step_store_row (by rfl) 49 _ _ (by rfl) xq (xC ⟨P.marker, kind, seq, IntKind.u32.wrap (P.time + offset), source, .slice none 0 0, .slice none 0 0, 0⟩ (.slice A2 bs.length c2)) (by rfl) (by rfl) 49 _ (hs.at 1 rfl) pkI49 rfl (by simp [Value.oneCell']) ?_
      replace hs := hs.setR1 (xC ⟨P.marker, kind, seq, IntKind.u32.wrap (P.time + offset), source, .slice none 0 0, .slice none 0 0, 0⟩ (.slice A2 bs.length c2))
      try clear hHeld
      refine hK.out _ _ (by (try dsimp only); first | exact rKeep (hs.at 2 rfl) (hs.at 3 rfl) | exact rKeep (hs.at 3 rfl) (hs.at 4 rfl) | exact rKeep ((hs.grow _).at 2 rfl) ((hs.grow _).at 3 rfl) | exact rKeep ((hs.grow _).at 3 rfl) ((hs.grow _).at 4 rfl)) (fun hHeld => ?_)
      clear hK K
      try simp only [Act.put, List.getElem_toArray, List.getElem_cons_zero, List.getElem_cons_succ, List.setIfInBounds_toArray, List.set_cons_zero, List.set_cons_succ]
      refine wpAnyH_done (by kernel_rfl) ?_ _
      go_wp2
      go_meet
      exact ⟨xq, rfl, A2, c2, hs.drop⟩
  case rest =>
    obtain ⟨q9, rfl, A2, c2, hst3⟩ := hcut
    clear hst1 hi hz0 hz1 hz2
    obtain ⟨hc, hf, hlt⟩ := Blk.all (hst3.at 3 rfl)
    go_upto_if 40 with fail
    go_cut [] (fun wx => RCut I M p w.heap.size (w.heap.size + 1) q9 codec clock kind source seq time offset wanted current broken false last moment P (.slice A bs.length c) wx)
    case first =>
      cases t1 : (codec.toList == [86, 80, 56])
      · go_wp2
        go_meet
        exact ⟨I, _, A2, c2, bs.length, 0, .refl I, rfl, hst3⟩
      · cases begins
        · go_upto_region 5 with fail
          refine wp_region_held_drew (S := (fun w' => w'.cell? ⟨w.heap.size, 7, none⟩ = some (.slice A bs.length c) ∧ w'.cell? ⟨p, 13, none⟩ = some (.int .i64 0))) (by kernel_rfl) (by (try dsimp only); first | exact rKeep2 (hst3.drew.at 2 rfl) (hst3.drew.at 3 rfl) | exact rKeep2 (hst4.at 2 rfl) (hst4.at 3 rfl) | exact rKeep2 ((hst4.set 7 _).at 2 rfl) ((hst4.set 7 _).at 3 rfl)) (fun hHeld => ?_)
          refine wpAnyH_take (i := 0) (oi := _) (v := ?_) rfl (by kernel_rfl) (by kernel_rfl) (by kernel_rfl) (fun _ _ _ h => h) (Or.inl ⟨by rfl, ?_⟩) (by assumption) ?_
          rotate_left
          · (intro w hSw; (try dsimp only at hSw); go_simp; try with_reducible rfl)
          try simp only [Act.put, List.getElem_toArray, List.getElem_cons_zero, List.getElem_cons_succ, List.setIfInBounds_toArray, List.set_cons_zero, List.set_cons_succ]
          refine wpAnyH_take (i := 1) (oi := _) (v := ?_) rfl (by kernel_rfl) (by kernel_rfl) (by kernel_rfl) (fun _ _ _ h => h) (Or.inl ⟨by rfl, ?_⟩) (by assumption) ?_
          rotate_left
          · (intro w hSw; (try dsimp only at hSw); go_simp; try with_reducible rfl)
          try simp only [Act.put, List.getElem_toArray, List.getElem_cons_zero, List.getElem_cons_succ, List.setIfInBounds_toArray, List.set_cons_zero, List.set_cons_succ]
          refine wpAnyH_take (i := 2) (oi := _) (v := ?_) rfl (by kernel_rfl) (by kernel_rfl) (by kernel_rfl) (fun _ _ _ h => h) (Or.inl ⟨by rfl, ?_⟩) (by assumption) ?_
          rotate_left
          · (intro w hSw; (try dsimp only at hSw); go_simp; try with_reducible rfl)
          try simp only [Act.put, List.getElem_toArray, List.getElem_cons_zero, List.getElem_cons_succ, List.setIfInBounds_toArray, List.set_cons_zero, List.set_cons_succ]
          refine wpAnyH_take (i := 3) (oi := _) (v := ?_) rfl (by kernel_rfl) (by kernel_rfl) (by kernel_rfl) (fun _ _ _ h => h) (Or.inl ⟨by rfl, ?_⟩) (by assumption) ?_
          rotate_left
          · (intro w hSw; (try dsimp only at hSw); go_simp; try with_reducible rfl)
          try simp only [Act.put, List.getElem_toArray, List.getElem_cons_zero, List.getElem_cons_succ, List.setIfInBounds_toArray, List.set_cons_zero, List.set_cons_succ]
          refine wpAnyH_take (i := 4) (oi := _) (v := ?_) rfl (by kernel_rfl) (by kernel_rfl) (by kernel_rfl) (fun _ _ _ h => h) (Or.inl ⟨by rfl, ?_⟩) (by assumption) ?_
          rotate_left
          · (intro w hSw; (try dsimp only at hSw); go_simp; try with_reducible rfl)
          try simp only [Act.put, List.getElem_toArray, List.getElem_cons_zero, List.getElem_cons_succ, List.setIfInBounds_toArray, List.set_cons_zero, List.set_cons_succ]
          refine wpAnyH_take (i := 5) (oi := _) (v := ?_) rfl (by kernel_rfl) (by kernel_rfl) (by kernel_rfl) (fun _ _ _ h => h) (Or.inl ⟨by rfl, ?_⟩) (by assumption) ?_
          rotate_left
          · (intro w hSw; (try dsimp only at hSw); go_simp; try with_reducible rfl)
          try simp only [Act.put, List.getElem_toArray, List.getElem_cons_zero, List.getElem_cons_succ, List.setIfInBounds_toArray, List.set_cons_zero, List.set_cons_succ]
          refine wpAnyH_ready (rs := [6]) (by kernel_rfl) (by simp) ?_
          refine AllReadyH.cons (o := _) rfl (fun K hK => ?_) AllReadyH.nil
          go_simp
          refine (setR I _ _ A c bs 0 hst3.drew HB.out hl (by omega) (by omega)).mono ?_; rintro e w4 ⟨_, _, _, rfl, hle4, hst4, rfl, A4, c4, rfl, hc4, rfl⟩; replace hst4 := hst4.drop; obtain ⟨hc, hf, hlt⟩ := Blk.all (hst4.at 0 rfl)
          try clear hHeld
          refine hK.out _ _ (by (try dsimp only); first | exact rKeep2 (hst3.drew.at 2 rfl) (hst3.drew.at 3 rfl) | exact rKeep2 (hst4.at 2 rfl) (hst4.at 3 rfl) | exact rKeep2 ((hst4.set 7 _).at 2 rfl) ((hst4.set 7 _).at 3 rfl)) (fun hHeld => ?_)
          clear hK K
          try simp only [Act.put, List.getElem_toArray, List.getElem_cons_zero, List.getElem_cons_succ, List.setIfInBounds_toArray, List.set_cons_zero, List.set_cons_succ]
          refine wpAnyH_take (i := 7) (oi := _) (v := ?_) rfl (by kernel_rfl) (by kernel_rfl) (by kernel_rfl) (fun _ _ _ h => h) (Or.inl ⟨by rfl, ?_⟩) (by assumption) ?_
          rotate_left
          · (intro w hSw; (try dsimp only at hSw); go_simp; try with_reducible rfl)
          try simp only [Act.put, List.getElem_toArray, List.getElem_cons_zero, List.getElem_cons_succ, List.setIfInBounds_toArray, List.set_cons_zero, List.set_cons_succ]
          refine wpAnyH_ready (rs := [8]) (by kernel_rfl) (by simp) ?_
          refine AllReadyH.cons (o := _) rfl (fun K hK => ?_) AllReadyH.nil
          go_simp
          try clear hHeld
          refine hK.out _ _ (by (try dsimp only); first | exact rKeep2 (hst3.drew.at 2 rfl) (hst3.drew.at 3 rfl) | exact rKeep2 (hst4.at 2 rfl) (hst4.at 3 rfl) | exact rKeep2 ((hst4.set 7 _).at 2 rfl) ((hst4.set 7 _).at 3 rfl)) (fun hHeld => ?_)
          clear hK K
          try simp only [Act.put, List.getElem_toArray, List.getElem_cons_zero, List.getElem_cons_succ, List.setIfInBounds_toArray, List.set_cons_zero, List.set_cons_succ]
          refine wpAnyH_done (by kernel_rfl) ?_ _
          go_wp2
          go_meet
          exact ⟨I, _, A4, c4, _, 0, hle4, rfl, hst4.set 7 _⟩
        · have hst5 := hst3.set3 13 (.int .i64 1)
          go_upto_region 5 with fail
          generalize World.setCell _ _ _ = w5 at hst5 ⊢
          clear hc hf hlt
          refine wp_region_held_drew (S := (fun w' => w'.cell? ⟨w.heap.size, 7, none⟩ = some (.slice A bs.length c) ∧ w'.cell? ⟨p, 13, none⟩ = some (.int .i64 1))) (by kernel_rfl) (by (try dsimp only); first | exact rKeep2 (picture := 1) (hst5.drew.at 2 rfl) (hst5.drew.at 3 rfl) | exact rKeep2 (picture := 1) (hst4.at 2 rfl) (hst4.at 3 rfl) | exact rKeep2 (picture := 1) ((hst4.set 7 _).at 2 rfl) ((hst4.set 7 _).at 3 rfl)) (fun hHeld => ?_)
          refine wpAnyH_take (i := 0) (oi := _) (v := ?_) rfl (by kernel_rfl) (by kernel_rfl) (by kernel_rfl) (fun _ _ _ h => h) (Or.inl ⟨by rfl, ?_⟩) (by assumption) ?_
          rotate_left
          · (intro w hSw; (try dsimp only at hSw); go_simp; try with_reducible rfl)
          try simp only [Act.put, List.getElem_toArray, List.getElem_cons_zero, List.getElem_cons_succ, List.setIfInBounds_toArray, List.set_cons_zero, List.set_cons_succ]
          refine wpAnyH_take (i := 1) (oi := _) (v := ?_) rfl (by kernel_rfl) (by kernel_rfl) (by kernel_rfl) (fun _ _ _ h => h) (Or.inl ⟨by rfl, ?_⟩) (by assumption) ?_
          rotate_left
          · (intro w hSw; (try dsimp only at hSw); go_simp; try with_reducible rfl)
          try simp only [Act.put, List.getElem_toArray, List.getElem_cons_zero, List.getElem_cons_succ, List.setIfInBounds_toArray, List.set_cons_zero, List.set_cons_succ]
          refine wpAnyH_take (i := 2) (oi := _) (v := ?_) rfl (by kernel_rfl) (by kernel_rfl) (by kernel_rfl) (fun _ _ _ h => h) (Or.inl ⟨by rfl, ?_⟩) (by assumption) ?_
          rotate_left
          · (intro w hSw; (try dsimp only at hSw); go_simp; try with_reducible rfl)
          try simp only [Act.put, List.getElem_toArray, List.getElem_cons_zero, List.getElem_cons_succ, List.setIfInBounds_toArray, List.set_cons_zero, List.set_cons_succ]
          refine wpAnyH_take (i := 3) (oi := _) (v := ?_) rfl (by kernel_rfl) (by kernel_rfl) (by kernel_rfl) (fun _ _ _ h => h) (Or.inl ⟨by rfl, ?_⟩) (by assumption) ?_
          rotate_left
          · (intro w hSw; (try dsimp only at hSw); go_simp; try with_reducible rfl)
          try simp only [Act.put, List.getElem_toArray, List.getElem_cons_zero, List.getElem_cons_succ, List.setIfInBounds_toArray, List.set_cons_zero, List.set_cons_succ]
          refine wpAnyH_take (i := 4) (oi := _) (v := ?_) rfl (by kernel_rfl) (by kernel_rfl) (by kernel_rfl) (fun _ _ _ h => h) (Or.inl ⟨by rfl, ?_⟩) (by assumption) ?_
          rotate_left
          · (intro w hSw; (try dsimp only at hSw); go_simp; try with_reducible rfl)
          try simp only [Act.put, List.getElem_toArray, List.getElem_cons_zero, List.getElem_cons_succ, List.setIfInBounds_toArray, List.set_cons_zero, List.set_cons_succ]
          refine wpAnyH_take (i := 5) (oi := _) (v := ?_) rfl (by kernel_rfl) (by kernel_rfl) (by kernel_rfl) (fun _ _ _ h => h) (Or.inl ⟨by rfl, ?_⟩) (by assumption) ?_
          rotate_left
          · (intro w hSw; (try dsimp only at hSw); go_simp; try with_reducible rfl)
          try simp only [Act.put, List.getElem_toArray, List.getElem_cons_zero, List.getElem_cons_succ, List.setIfInBounds_toArray, List.set_cons_zero, List.set_cons_succ]
          refine wpAnyH_ready (rs := [6]) (by kernel_rfl) (by simp) ?_
          refine AllReadyH.cons (o := _) rfl (fun K hK => ?_) AllReadyH.nil
          go_simp
          refine (setR I _ _ A c bs 1 hst5.drew HB.out hl (by omega) (by omega)).mono ?_; rintro e w4 ⟨_, _, _, rfl, hle4, hst4, rfl, A4, c4, rfl, hc4, rfl⟩; replace hst4 := hst4.drop; obtain ⟨hc, hf, hlt⟩ := Blk.all (hst4.at 0 rfl)
          try clear hHeld
          refine hK.out _ _ (by (try dsimp only); first | exact rKeep2 (picture := 1) (hst5.drew.at 2 rfl) (hst5.drew.at 3 rfl) | exact rKeep2 (picture := 1) (hst4.at 2 rfl) (hst4.at 3 rfl) | exact rKeep2 (picture := 1) ((hst4.set 7 _).at 2 rfl) ((hst4.set 7 _).at 3 rfl)) (fun hHeld => ?_)
          clear hK K
          try simp only [Act.put, List.getElem_toArray, List.getElem_cons_zero, List.getElem_cons_succ, List.setIfInBounds_toArray, List.set_cons_zero, List.set_cons_succ]
          refine wpAnyH_take (i := 7) (oi := _) (v := ?_) rfl (by kernel_rfl) (by kernel_rfl) (by kernel_rfl) (fun _ _ _ h => h) (Or.inl ⟨by rfl, ?_⟩) (by assumption) ?_
          rotate_left
          · (intro w hSw; (try dsimp only at hSw); go_simp; try with_reducible rfl)
          try simp only [Act.put, List.getElem_toArray, List.getElem_cons_zero, List.getElem_cons_succ, List.setIfInBounds_toArray, List.set_cons_zero, List.set_cons_succ]
          refine wpAnyH_ready (rs := [8]) (by kernel_rfl) (by simp) ?_
          refine AllReadyH.cons (o := _) rfl (fun K hK => ?_) AllReadyH.nil
          go_simp
          try clear hHeld
          refine hK.out _ _ (by (try dsimp only); first | exact rKeep2 (picture := 1) (hst5.drew.at 2 rfl) (hst5.drew.at 3 rfl) | exact rKeep2 (picture := 1) (hst4.at 2 rfl) (hst4.at 3 rfl) | exact rKeep2 (picture := 1) ((hst4.set 7 _).at 2 rfl) ((hst4.set 7 _).at 3 rfl)) (fun hHeld => ?_)
          clear hK K
          try simp only [Act.put, List.getElem_toArray, List.getElem_cons_zero, List.getElem_cons_succ, List.setIfInBounds_toArray, List.set_cons_zero, List.set_cons_succ]
          refine wpAnyH_done (by kernel_rfl) ?_ _
          go_wp2
          go_meet
          exact ⟨I, _, A4, c4, _, 1, hle4, rfl, hst4.set 7 _⟩
    case rest =>
      obtain ⟨J, P2, A3, c3, n3, picture, hle, hseq, hst⟩ := hcut
      clear hst3 hc hf hlt HB
      have hst4 := hst.set3 4 (.int .u16 (IntKind.u16.wrap (seq + 1)))
      obtain ⟨hc, hf, hlt⟩ := Blk.all (hst.at 3 rfl)
      clear hst
      go_upto_region 7 with fail
      generalize World.setCell _ _ _ = w6 at hst4 ⊢
      clear hc hf hlt
      obtain ⟨hc, hf, hlt⟩ := Blk.all (hst4.at 3 rfl)
      refine wp_region_held_drew (S := (fun w' => w'.cell? ⟨w.heap.size, 2, none⟩ = some (.int .u16 P.seq) ∧ w'.cell? ⟨q9, 3, none⟩ = some (.int .u32 P2.time))) (by kernel_rfl) (by (try dsimp only); first | exact rKeep3 (hst4.drew.at 2 rfl) (hst4.drew.at 0 rfl) | exact rKeep3 ((hst4.drew.set3 _ _).at 2 rfl) ((hst4.drew.set3 _ _).at 0 rfl) | exact rKeep3 (((hst4.drew.set3 _ _).set3 _ _).at 2 rfl) (((hst4.drew.set3 _ _).set3 _ _).at 0 rfl)) (fun hHeld => ?_)
      refine wpAnyH_take (i := 0) (oi := _) (v := ?_) rfl (by kernel_rfl) (by kernel_rfl) (by kernel_rfl) (fun _ _ _ h => h) (Or.inl ⟨by rfl, ?_⟩) (by assumption) ?_
      rotate_left
      · (intro w hSw; (try dsimp only at hSw); go_simp; try with_reducible rfl)
      try simp only [Act.put, List.getElem_toArray, List.getElem_cons_zero, List.getElem_cons_succ, List.setIfInBounds_toArray, List.set_cons_zero, List.set_cons_succ]
      refine wpAnyH_take (i := 1) (oi := _) (v := ?_) rfl (by kernel_rfl) (by kernel_rfl) (by kernel_rfl) (fun _ _ _ h => h) (Or.inl ⟨by rfl, ?_⟩) (by assumption) ?_
      rotate_left
      · (intro w hSw; (try dsimp only at hSw); go_simp; try with_reducible rfl)
      try simp only [Act.put, List.getElem_toArray, List.getElem_cons_zero, List.getElem_cons_succ, List.setIfInBounds_toArray, List.set_cons_zero, List.set_cons_succ]
      refine wpAnyH_take (i := 2) (oi := _) (v := ?_) rfl (by kernel_rfl) (by kernel_rfl) (by kernel_rfl) (fun _ _ _ h => h) (Or.inl ⟨by rfl, ?_⟩) (by assumption) ?_
      rotate_left
      · (intro w hSw; (try dsimp only at hSw); go_simp; try with_reducible rfl)
      try simp only [Act.put, List.getElem_toArray, List.getElem_cons_zero, List.getElem_cons_succ, List.setIfInBounds_toArray, List.set_cons_zero, List.set_cons_succ]
      refine wpAnyH_take (i := 3) (oi := _) (v := ?_) rfl (by kernel_rfl) (by kernel_rfl) (by kernel_rfl) (fun _ _ _ h => h) (Or.inl ⟨by rfl, ?_⟩) (by assumption) ?_
      rotate_left
      · (intro w hSw; (try dsimp only at hSw); go_simp; try with_reducible rfl)
      try simp only [Act.put, List.getElem_toArray, List.getElem_cons_zero, List.getElem_cons_succ, List.setIfInBounds_toArray, List.set_cons_zero, List.set_cons_succ]
      refine wpAnyH_take (i := 4) (oi := _) (v := ?_) rfl (by kernel_rfl) (by kernel_rfl) (by kernel_rfl) (fun _ _ _ h => h) (Or.inl ⟨by rfl, ?_⟩) (by assumption) ?_
      rotate_left
      · (intro w hSw; (try dsimp only at hSw); go_simp; try with_reducible rfl)
      try simp only [Act.put, List.getElem_toArray, List.getElem_cons_zero, List.getElem_cons_succ, List.setIfInBounds_toArray, List.set_cons_zero, List.set_cons_succ]
      refine wpAnyH_take (i := 5) (oi := _) (v := ?_) rfl (by kernel_rfl) (by kernel_rfl) (by kernel_rfl) (fun _ _ _ h => h) (Or.inl ⟨by rfl, ?_⟩) (by assumption) ?_
      rotate_left
      · (intro w hSw; (try dsimp only at hSw); go_simp; try with_reducible rfl)
      try simp only [Act.put, List.getElem_toArray, List.getElem_cons_zero, List.getElem_cons_succ, List.setIfInBounds_toArray, List.set_cons_zero, List.set_cons_succ]
      refine wpAnyH_take (i := 6) (oi := _) (v := ?_) rfl (by kernel_rfl) (by kernel_rfl) (by kernel_rfl) (fun _ _ _ h => h) (Or.inl ⟨by rfl, ?_⟩) (by assumption) ?_
      rotate_left
      · (intro w hSw; (try dsimp only at hSw); go_simp; try with_reducible rfl)
      try simp only [Act.put, List.getElem_toArray, List.getElem_cons_zero, List.getElem_cons_succ, List.setIfInBounds_toArray, List.set_cons_zero, List.set_cons_succ]
      refine wpAnyH_take (i := 7) (oi := _) (v := ?_) rfl (by kernel_rfl) (by kernel_rfl) (by kernel_rfl) (fun _ _ _ h => h) (Or.inl ⟨by rfl, ?_⟩) (by assumption) ?_
      rotate_left
      · (intro w hSw; (try dsimp only at hSw); go_simp; try with_reducible rfl)
      try simp only [Act.put, List.getElem_toArray, List.getElem_cons_zero, List.getElem_cons_succ, List.setIfInBounds_toArray, List.set_cons_zero, List.set_cons_succ]
      refine wpAnyH_ready (rs := [8]) (by kernel_rfl) (by simp) ?_
      refine AllReadyH.cons (o := _) rfl (fun K hK => ?_) AllReadyH.nil
      go_simp
      try clear hHeld
      refine hK.out _ _ (by (try dsimp only); first | exact rKeep3 (hst4.drew.at 2 rfl) (hst4.drew.at 0 rfl) | exact rKeep3 ((hst4.drew.set3 _ _).at 2 rfl) ((hst4.drew.set3 _ _).at 0 rfl) | exact rKeep3 (((hst4.drew.set3 _ _).set3 _ _).at 2 rfl) (((hst4.drew.set3 _ _).set3 _ _).at 0 rfl)) (fun hHeld => ?_)
      clear hK K
      try simp only [Act.put, List.getElem_toArray, List.getElem_cons_zero, List.getElem_cons_succ, List.setIfInBounds_toArray, List.set_cons_zero, List.set_cons_succ]
      refine wpAnyH_take (i := 9) (oi := _) (v := ?_) rfl (by kernel_rfl) (by kernel_rfl) (by kernel_rfl) (fun _ _ _ h => h) (Or.inl ⟨by rfl, ?_⟩) (by assumption) ?_
      rotate_left
      · (intro w hSw; (try dsimp only at hSw); go_simp; try with_reducible rfl)
      try simp only [Act.put, List.getElem_toArray, List.getElem_cons_zero, List.getElem_cons_succ, List.setIfInBounds_toArray, List.set_cons_zero, List.set_cons_succ]
      refine wpAnyH_take (i := 10) (oi := _) (v := ?_) rfl (by kernel_rfl) (by kernel_rfl) (by kernel_rfl) (fun _ _ _ h => h) (Or.inl ⟨by rfl, ?_⟩) (by assumption) ?_
      rotate_left
      · (intro w hSw; (try dsimp only at hSw); go_simp; try with_reducible rfl)
      try simp only [Act.put, List.getElem_toArray, List.getElem_cons_zero, List.getElem_cons_succ, List.setIfInBounds_toArray, List.set_cons_zero, List.set_cons_succ]
      refine wpAnyH_ready (rs := [11]) (by kernel_rfl) (by simp) ?_
      refine AllReadyH.cons (o := _) rfl (fun K hK => ?_) AllReadyH.nil
      go_simp
      try clear hHeld
      refine hK.out _ _ (by (try dsimp only); first | exact rKeep3 (hst4.drew.at 2 rfl) (hst4.drew.at 0 rfl) | exact rKeep3 ((hst4.drew.set3 _ _).at 2 rfl) ((hst4.drew.set3 _ _).at 0 rfl) | exact rKeep3 (((hst4.drew.set3 _ _).set3 _ _).at 2 rfl) (((hst4.drew.set3 _ _).set3 _ _).at 0 rfl)) (fun hHeld => ?_)
      clear hK K
      try simp only [Act.put, List.getElem_toArray, List.getElem_cons_zero, List.getElem_cons_succ, List.setIfInBounds_toArray, List.set_cons_zero, List.set_cons_succ]
      refine wpAnyH_done (by kernel_rfl) ?_ _
      have hst5 : St J (bk q9 49 (xC P2 (.slice A3 n3 c3)) :: bk (w.heap.size + 1) 49 zeroC :: bk w.heap.size 49 (pkC P (.slice A bs.length c)) :: bk p 71 (rC codec clock kind source (IntKind.u16.wrap (seq + 1)) P2.time offset wanted current broken false P.seq moment picture) :: M) (World.drew ((w6.setCell ⟨p, 11, none⟩ (.int .u16 P.seq)).setCell ⟨p, 5, none⟩ (.int .u32 P2.time))) := ((hst4.set3 11 (.int .u16 P.seq)).set3 5 (.int .u32 P2.time)).drew
      generalize World.drew _ = w7 at hst5 ⊢
      clear hst4 hc hf hlt hHeld
      obtain ⟨hc, hf, hlt⟩ := Blk.all (hst5.at 3 rfl)
      have hst6 := (hst5.set3 12 (.int .i64 now)).set3 10 (.bool true)
      go_upto_region 11 with fail
      generalize World.setCell (World.setCell w7 _ _) _ _ = w8 at hst6 ⊢
      clear hst5 hc hf hlt
      have hb9 : Blk w8 q9 49 (xC P2 (.slice A3 n3 c3)) := hst6.at 0 rfl
      have hb8 : Blk w8 (w.heap.size + 1) 49 zeroC := hst6.at 1 rfl
      obtain ⟨fs, hd⟩ := pkD49
      go_upto_region 99 with (first | refine wpList_load_row rfl 49 (.tmp 9) rfl q9 rfl 49 _ (0, 0) _ hb9 hd rfl pkI49 ?_ | refine wpList_store_row rfl 49 (.tmp 8) (.tmp 96) rfl (w.heap.size + 1) (xC P2 (.slice A3 n3 c3)) rfl rfl 49 _ hb8 pkI49 rfl (by simp [Value.oneCell']) ?_)
      refine bodyPost_ret (res26 _ _ P2 _ _ rfl ((hst6.setR1 _).at 1 rfl)) rfl ?_
      exact Ret.mk hle (hst6.setR1 _).drop.drop.drop.drop ⟨P2, A3, c3, n3, rfl, hseq, rfl⟩
end Go.Proofs.Ytaemohkmingnpaa
