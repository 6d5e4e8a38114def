/- the laws' own helpers: awake, begin. -/
import Derived.Test.YtaemohkmingnpaaFwD
namespace Go.Proofs.Ytaemohkmingnpaa
open Go.RowKit
set_option linter.unusedSimpArgs false

structure Md where
  codec : ByteArray
  clock : Int
  source : Int
  kind : Int
  seq : Int
  time : Int
structure Md.ok (m : Md) : Prop where
  source : 0 ≤ m.source ∧ m.source ≤ 4294967295
  seq : 0 ≤ m.seq ∧ m.seq ≤ 65535
  time : 0 ≤ m.time ∧ m.time ≤ 4294967295
abbrev mdC (m : Md) : Array Value := #[.string m.codec, .int .i64 m.clock, .int .u32 m.source, .int .i64 m.kind, .int .u16 m.seq, .int .u32 m.time]
def fl0 (m : Md) : Fl := newFl m.codec m.clock m.source m.kind m.seq m.time
abbrev rfC (m : Md) : Array Value := #[.string m.codec, .int .i64 (min (max m.clock 1) 1000000), .int .i64 m.kind, .int .u32 m.source, .int .u16 m.seq, .int .u32 m.time, .int .u32 0, .int .i64 0, .int .i64 (-1), .bool false, .bool false, .int .u16 0, .int .i64 0, .int .i64 0]
theorem fl0_ok {m : Md} (h : m.ok) : (fl0 m).ok :=
  ⟨by show 1 ≤ min (max m.clock 1) 1000000 ∧ min (max m.clock 1) 1000000 ≤ 1000000; omega, h.seq, h.time, by show (0 : Int) ≤ 0 ∧ (0 : Int) ≤ _; omega, by show (-1 : Int) ≤ -1 ∧ (-1 : Int) ≤ _; omega, by show (0 : Int) ≤ 0 ∧ (0 : Int) ≤ _; omega, by show (_ : Int) ≤ 0 ∧ (0 : Int) ≤ _; omega, by show (0 : Int) ≤ 0 ∧ (0 : Int) ≤ _; omega, by show (0 : Int) ≤ 0 ∧ (0 : Int) ≤ _; omega⟩
set_option maxHeartbeats 400000 in
theorem newRefC (I : Img) (M : List Res) (w : World) (m : Md) (hst : St I M w) :
    Calls Try.prog 18 #[.string m.codec, .int .i64 m.clock, .int .u32 m.source, .int .i64 m.kind, .int .u16 m.seq, .int .u32 m.time] w (Ret I (fun v J M' => I = J ∧ ∃ p, v = .pointer (some ⟨p, 0, none⟩) ∧ M' = bk p 71 (rfC m) :: M)) := by
  obtain ⟨codec, clock, source, kind, seq, time⟩ := m
  have H := Lib.hid hst
  clear hst
  go_enter Try.func18, Try.ntmps18
  go_wp2
  all_goals
    go_returns
    refine Ret.mk (.refl I) (H.out.alloc _ _) ⟨rfl, _, rfl, ?_⟩
    first
      | (have e : min (max clock 1) 1000000 = 1 := by omega
         simp only [rfC]; rw [e])
      | (have e : min (max clock 1) 1000000 = clock := by omega
         simp only [rfC]; rw [e])
      | (have e : min (max clock 1) 1000000 = 1000000 := by omega
         simp only [rfC]; rw [e])
theorem mdKeep {J : Img} {M : List Res} {w : World} {q : Nat} {m : Md} (h : ∃ i : Nat, M[i]? = some (bk q 25 (mdC m))) (hst : St J M w) :
    w.cell? ⟨q, 0, none⟩ = some (.string m.codec) ∧ w.cell? ⟨q, 1, none⟩ = some (.int .i64 m.clock) ∧ w.cell? ⟨q, 2, none⟩ = some (.int .u32 m.source) ∧ w.cell? ⟨q, 3, none⟩ = some (.int .i64 m.kind) ∧ w.cell? ⟨q, 4, none⟩ = some (.int .u16 m.seq) ∧ w.cell? ⟨q, 5, none⟩ = some (.int .u32 m.time) := by
  obtain ⟨i, h⟩ := h
  have hb : Blk w q 25 (mdC m) := hst.at i h
  exact ⟨hb.cell 0, hb.cell 1, hb.cell 2, hb.cell 3, hb.cell 4, hb.cell 5⟩
set_option maxHeartbeats 4000000 in
theorem beginC (I : Img) (M : List Res) (w : World) (m : Md) (hst : St I M w) :
    Calls Try.prog 9 #[.agg (mdC m)] w (Ret I (fun v J M' => I = J ∧ ∃ p r, v = .tuple #[.pointer (some ⟨p, 0, none⟩), .pointer (some ⟨r, 0, none⟩)] ∧ M' = bk r 71 (rfC m) :: bk p 64 (flC (fl0 m)) :: M)) := by
  have hst1 := hst.alloc 25 (mdC m)
  clear hst
  go_enter Try.func9, Try.ntmps9
  go_upto_region 1 with fail
  generalize World.alloc w _ = w1 at hst1 ⊢
  refine wp_region_held_drew (S := (fun w' => w'.cell? ⟨w.heap.size, 0, none⟩ = some (.string m.codec) ∧ w'.cell? ⟨w.heap.size, 1, none⟩ = some (.int .i64 m.clock) ∧ w'.cell? ⟨w.heap.size, 2, none⟩ = some (.int .u32 m.source) ∧ w'.cell? ⟨w.heap.size, 3, none⟩ = some (.int .i64 m.kind) ∧ w'.cell? ⟨w.heap.size, 4, none⟩ = some (.int .u16 m.seq) ∧ w'.cell? ⟨w.heap.size, 5, none⟩ = some (.int .u32 m.time))) (by kernel_rfl) (by (try dsimp only); first | exact mdKeep ⟨0, rfl⟩ hst1.drew | exact mdKeep ⟨1, rfl⟩ hst2 | exact mdKeep ⟨2, rfl⟩ hst3) (fun hHeld => ?_)
  refine wpAnyH_take (i := 0) (oi := _) (v := ?_) rfl (by kernel_rfl) (by kernel_rfl) (by kernel_rfl) (fun _ _ _ h => h) (Or.inl ⟨by rfl, ?_⟩) (by assumption) ?_
  rotate_left
  · (intro w hSw; (try dsimp only at hSw); go_simp; try with_reducible rfl)
  try simp only [Act.put, List.getElem_toArray, List.getElem_cons_zero, List.getElem_cons_succ, List.setIfInBounds_toArray, List.set_cons_zero, List.set_cons_succ]
  refine wpAnyH_take (i := 1) (oi := _) (v := ?_) rfl (by kernel_rfl) (by kernel_rfl) (by kernel_rfl) (fun _ _ _ h => h) (Or.inl ⟨by rfl, ?_⟩) (by assumption) ?_
  rotate_left
  · (intro w hSw; (try dsimp only at hSw); go_simp; try with_reducible rfl)
  try simp only [Act.put, List.getElem_toArray, List.getElem_cons_zero, List.getElem_cons_succ, List.setIfInBounds_toArray, List.set_cons_zero, List.set_cons_succ]
  refine wpAnyH_take (i := 2) (oi := _) (v := ?_) rfl (by kernel_rfl) (by kernel_rfl) (by kernel_rfl) (fun _ _ _ h => h) (Or.inl ⟨by rfl, ?_⟩) (by assumption) ?_
  rotate_left
  · (intro w hSw; (try dsimp only at hSw); go_simp; try with_reducible rfl)
  try simp only [Act.put, List.getElem_toArray, List.getElem_cons_zero, List.getElem_cons_succ, List.setIfInBounds_toArray, List.set_cons_zero, List.set_cons_succ]
  refine wpAnyH_take (i := 3) (oi := _) (v := ?_) rfl (by kernel_rfl) (by kernel_rfl) (by kernel_rfl) (fun _ _ _ h => h) (Or.inl ⟨by rfl, ?_⟩) (by assumption) ?_
  rotate_left
  · (intro w hSw; (try dsimp only at hSw); go_simp; try with_reducible rfl)
  try simp only [Act.put, List.getElem_toArray, List.getElem_cons_zero, List.getElem_cons_succ, List.setIfInBounds_toArray, List.set_cons_zero, List.set_cons_succ]
  refine wpAnyH_take (i := 4) (oi := _) (v := ?_) rfl (by kernel_rfl) (by kernel_rfl) (by kernel_rfl) (fun _ _ _ h => h) (Or.inl ⟨by rfl, ?_⟩) (by assumption) ?_
  rotate_left
  · (intro w hSw; (try dsimp only at hSw); go_simp; try with_reducible rfl)
  try simp only [Act.put, List.getElem_toArray, List.getElem_cons_zero, List.getElem_cons_succ, List.setIfInBounds_toArray, List.set_cons_zero, List.set_cons_succ]
  refine wpAnyH_take (i := 5) (oi := _) (v := ?_) rfl (by kernel_rfl) (by kernel_rfl) (by kernel_rfl) (fun _ _ _ h => h) (Or.inl ⟨by rfl, ?_⟩) (by assumption) ?_
  rotate_left
  · (intro w hSw; (try dsimp only at hSw); go_simp; try with_reducible rfl)
  try simp only [Act.put, List.getElem_toArray, List.getElem_cons_zero, List.getElem_cons_succ, List.setIfInBounds_toArray, List.set_cons_zero, List.set_cons_succ]
  refine wpAnyH_take (i := 6) (oi := _) (v := ?_) rfl (by kernel_rfl) (by kernel_rfl) (by kernel_rfl) (fun _ _ _ h => h) (Or.inl ⟨by rfl, ?_⟩) (by assumption) ?_
  rotate_left
  · (intro w hSw; (try dsimp only at hSw); go_simp; try with_reducible rfl)
  try simp only [Act.put, List.getElem_toArray, List.getElem_cons_zero, List.getElem_cons_succ, List.setIfInBounds_toArray, List.set_cons_zero, List.set_cons_succ]
  refine wpAnyH_take (i := 7) (oi := _) (v := ?_) rfl (by kernel_rfl) (by kernel_rfl) (by kernel_rfl) (fun _ _ _ h => h) (Or.inl ⟨by rfl, ?_⟩) (by assumption) ?_
  rotate_left
  · (intro w hSw; (try dsimp only at hSw); go_simp; try with_reducible rfl)
  try simp only [Act.put, List.getElem_toArray, List.getElem_cons_zero, List.getElem_cons_succ, List.setIfInBounds_toArray, List.set_cons_zero, List.set_cons_succ]
  refine wpAnyH_take (i := 8) (oi := _) (v := ?_) rfl (by kernel_rfl) (by kernel_rfl) (by kernel_rfl) (fun _ _ _ h => h) (Or.inl ⟨by rfl, ?_⟩) (by assumption) ?_
  rotate_left
  · (intro w hSw; (try dsimp only at hSw); go_simp; try with_reducible rfl)
  try simp only [Act.put, List.getElem_toArray, List.getElem_cons_zero, List.getElem_cons_succ, List.setIfInBounds_toArray, List.set_cons_zero, List.set_cons_succ]
  refine wpAnyH_take (i := 9) (oi := _) (v := ?_) rfl (by kernel_rfl) (by kernel_rfl) (by kernel_rfl) (fun _ _ _ h => h) (Or.inl ⟨by rfl, ?_⟩) (by assumption) ?_
  rotate_left
  · (intro w hSw; (try dsimp only at hSw); go_simp; try with_reducible rfl)
  try simp only [Act.put, List.getElem_toArray, List.getElem_cons_zero, List.getElem_cons_succ, List.setIfInBounds_toArray, List.set_cons_zero, List.set_cons_succ]
  refine wpAnyH_take (i := 10) (oi := _) (v := ?_) rfl (by kernel_rfl) (by kernel_rfl) (by kernel_rfl) (fun _ _ _ h => h) (Or.inl ⟨by rfl, ?_⟩) (by assumption) ?_
  rotate_left
  · (intro w hSw; (try dsimp only at hSw); go_simp; try with_reducible rfl)
  try simp only [Act.put, List.getElem_toArray, List.getElem_cons_zero, List.getElem_cons_succ, List.setIfInBounds_toArray, List.set_cons_zero, List.set_cons_succ]
  refine wpAnyH_take (i := 11) (oi := _) (v := ?_) rfl (by kernel_rfl) (by kernel_rfl) (by kernel_rfl) (fun _ _ _ h => h) (Or.inl ⟨by rfl, ?_⟩) (by assumption) ?_
  rotate_left
  · (intro w hSw; (try dsimp only at hSw); go_simp; try with_reducible rfl)
  try simp only [Act.put, List.getElem_toArray, List.getElem_cons_zero, List.getElem_cons_succ, List.setIfInBounds_toArray, List.set_cons_zero, List.set_cons_succ]
  refine wpAnyH_take (i := 13) (oi := _) (v := ?_) rfl (by kernel_rfl) (by kernel_rfl) (by kernel_rfl) (fun _ _ _ h => h) (Or.inl ⟨by rfl, ?_⟩) (by assumption) ?_
  rotate_left
  · (intro w hSw; (try dsimp only at hSw); go_simp; try with_reducible rfl)
  try simp only [Act.put, List.getElem_toArray, List.getElem_cons_zero, List.getElem_cons_succ, List.setIfInBounds_toArray, List.set_cons_zero, List.set_cons_succ]
  refine wpAnyH_take (i := 14) (oi := _) (v := ?_) rfl (by kernel_rfl) (by kernel_rfl) (by kernel_rfl) (fun _ _ _ h => h) (Or.inl ⟨by rfl, ?_⟩) (by assumption) ?_
  rotate_left
  · (intro w hSw; (try dsimp only at hSw); go_simp; try with_reducible rfl)
  try simp only [Act.put, List.getElem_toArray, List.getElem_cons_zero, List.getElem_cons_succ, List.setIfInBounds_toArray, List.set_cons_zero, List.set_cons_succ]
  refine wpAnyH_take (i := 15) (oi := _) (v := ?_) rfl (by kernel_rfl) (by kernel_rfl) (by kernel_rfl) (fun _ _ _ h => h) (Or.inl ⟨by rfl, ?_⟩) (by assumption) ?_
  rotate_left
  · (intro w hSw; (try dsimp only at hSw); go_simp; try with_reducible rfl)
  try simp only [Act.put, List.getElem_toArray, List.getElem_cons_zero, List.getElem_cons_succ, List.setIfInBounds_toArray, List.set_cons_zero, List.set_cons_succ]
  refine wpAnyH_take (i := 16) (oi := _) (v := ?_) rfl (by kernel_rfl) (by kernel_rfl) (by kernel_rfl) (fun _ _ _ h => h) (Or.inl ⟨by rfl, ?_⟩) (by assumption) ?_
  rotate_left
  · (intro w hSw; (try dsimp only at hSw); go_simp; try with_reducible rfl)
  try simp only [Act.put, List.getElem_toArray, List.getElem_cons_zero, List.getElem_cons_succ, List.setIfInBounds_toArray, List.set_cons_zero, List.set_cons_succ]
  refine wpAnyH_take (i := 17) (oi := _) (v := ?_) rfl (by kernel_rfl) (by kernel_rfl) (by kernel_rfl) (fun _ _ _ h => h) (Or.inl ⟨by rfl, ?_⟩) (by assumption) ?_
  rotate_left
  · (intro w hSw; (try dsimp only at hSw); go_simp; try with_reducible rfl)
  try simp only [Act.put, List.getElem_toArray, List.getElem_cons_zero, List.getElem_cons_succ, List.setIfInBounds_toArray, List.set_cons_zero, List.set_cons_succ]
  refine wpAnyH_take (i := 18) (oi := _) (v := ?_) rfl (by kernel_rfl) (by kernel_rfl) (by kernel_rfl) (fun _ _ _ h => h) (Or.inl ⟨by rfl, ?_⟩) (by assumption) ?_
  rotate_left
  · (intro w hSw; (try dsimp only at hSw); go_simp; try with_reducible rfl)
  try simp only [Act.put, List.getElem_toArray, List.getElem_cons_zero, List.getElem_cons_succ, List.setIfInBounds_toArray, List.set_cons_zero, List.set_cons_succ]
  refine wpAnyH_take (i := 19) (oi := _) (v := ?_) rfl (by kernel_rfl) (by kernel_rfl) (by kernel_rfl) (fun _ _ _ h => h) (Or.inl ⟨by rfl, ?_⟩) (by assumption) ?_
  rotate_left
  · (intro w hSw; (try dsimp only at hSw); go_simp; try with_reducible rfl)
  try simp only [Act.put, List.getElem_toArray, List.getElem_cons_zero, List.getElem_cons_succ, List.setIfInBounds_toArray, List.set_cons_zero, List.set_cons_succ]
  refine wpAnyH_take (i := 20) (oi := _) (v := ?_) rfl (by kernel_rfl) (by kernel_rfl) (by kernel_rfl) (fun _ _ _ h => h) (Or.inl ⟨by rfl, ?_⟩) (by assumption) ?_
  rotate_left
  · (intro w hSw; (try dsimp only at hSw); go_simp; try with_reducible rfl)
  try simp only [Act.put, List.getElem_toArray, List.getElem_cons_zero, List.getElem_cons_succ, List.setIfInBounds_toArray, List.set_cons_zero, List.set_cons_succ]
  refine wpAnyH_take (i := 21) (oi := _) (v := ?_) rfl (by kernel_rfl) (by kernel_rfl) (by kernel_rfl) (fun _ _ _ h => h) (Or.inl ⟨by rfl, ?_⟩) (by assumption) ?_
  rotate_left
  · (intro w hSw; (try dsimp only at hSw); go_simp; try with_reducible rfl)
  try simp only [Act.put, List.getElem_toArray, List.getElem_cons_zero, List.getElem_cons_succ, List.setIfInBounds_toArray, List.set_cons_zero, List.set_cons_succ]
  refine wpAnyH_take (i := 22) (oi := _) (v := ?_) rfl (by kernel_rfl) (by kernel_rfl) (by kernel_rfl) (fun _ _ _ h => h) (Or.inl ⟨by rfl, ?_⟩) (by assumption) ?_
  rotate_left
  · (intro w hSw; (try dsimp only at hSw); go_simp; try with_reducible rfl)
  try simp only [Act.put, List.getElem_toArray, List.getElem_cons_zero, List.getElem_cons_succ, List.setIfInBounds_toArray, List.set_cons_zero, List.set_cons_succ]
  refine wpAnyH_take (i := 23) (oi := _) (v := ?_) rfl (by kernel_rfl) (by kernel_rfl) (by kernel_rfl) (fun _ _ _ h => h) (Or.inl ⟨by rfl, ?_⟩) (by assumption) ?_
  rotate_left
  · (intro w hSw; (try dsimp only at hSw); go_simp; try with_reducible rfl)
  try simp only [Act.put, List.getElem_toArray, List.getElem_cons_zero, List.getElem_cons_succ, List.setIfInBounds_toArray, List.set_cons_zero, List.set_cons_succ]
  refine wpAnyH_take (i := 24) (oi := _) (v := ?_) rfl (by kernel_rfl) (by kernel_rfl) (by kernel_rfl) (fun _ _ _ h => h) (Or.inl ⟨by rfl, ?_⟩) (by assumption) ?_
  rotate_left
  · (intro w hSw; (try dsimp only at hSw); go_simp; try with_reducible rfl)
  try simp only [Act.put, List.getElem_toArray, List.getElem_cons_zero, List.getElem_cons_succ, List.setIfInBounds_toArray, List.set_cons_zero, List.set_cons_succ]
  refine wpAnyH_ready (rs := [12]) (by kernel_rfl) (by simp) ?_
  refine AllReadyH.cons (o := _) rfl (fun K hK => ?_) AllReadyH.nil
  go_simp
  refine (newC I _ _ hst1.drew m.codec m.clock m.source m.kind m.seq m.time).mono ?_; rintro e w2 ⟨_, _, _, rfl, hle, hst2, rfl, p, rfl, rfl⟩
  try clear hHeld
  refine hK.out _ _ (by (try dsimp only); first | exact mdKeep ⟨0, rfl⟩ hst1.drew | exact mdKeep ⟨1, rfl⟩ hst2 | exact mdKeep ⟨2, rfl⟩ hst3) (fun hHeld => ?_)
  clear hK K
  try simp only [Act.put, List.getElem_toArray, List.getElem_cons_zero, List.getElem_cons_succ, List.setIfInBounds_toArray, List.set_cons_zero, List.set_cons_succ]
  refine wpAnyH_ready (rs := [25]) (by kernel_rfl) (by simp) ?_
  refine AllReadyH.cons (o := _) rfl (fun K hK => ?_) AllReadyH.nil
  go_simp
  refine (newRefC I _ _ m hst2).mono ?_; rintro e w3 ⟨_, _, _, rfl, hle, hst3, rfl, r, rfl, rfl⟩
  try clear hHeld
  refine hK.out _ _ (by (try dsimp only); first | exact mdKeep ⟨0, rfl⟩ hst1.drew | exact mdKeep ⟨1, rfl⟩ hst2 | exact mdKeep ⟨2, rfl⟩ hst3) (fun hHeld => ?_)
  clear hK K
  try simp only [Act.put, List.getElem_toArray, List.getElem_cons_zero, List.getElem_cons_succ, List.setIfInBounds_toArray, List.set_cons_zero, List.set_cons_succ]
  refine wpAnyH_take (i := 26) (oi := _) (v := ?_) rfl (by kernel_rfl) (by kernel_rfl) (by kernel_rfl) (fun _ _ _ h => h) (Or.inl ⟨by rfl, ?_⟩) (by assumption) ?_
  rotate_left
  · (intro w hSw; (try dsimp only at hSw); go_simp; try with_reducible rfl)
  try simp only [Act.put, List.getElem_toArray, List.getElem_cons_zero, List.getElem_cons_succ, List.setIfInBounds_toArray, List.set_cons_zero, List.set_cons_succ]
  refine wpAnyH_take (i := 27) (oi := _) (v := ?_) rfl (by kernel_rfl) (by kernel_rfl) (by kernel_rfl) (fun _ _ _ h => h) (Or.inl ⟨by rfl, ?_⟩) (by assumption) ?_
  rotate_left
  · (intro w hSw; (try dsimp only at hSw); go_simp; try with_reducible rfl)
  try simp only [Act.put, List.getElem_toArray, List.getElem_cons_zero, List.getElem_cons_succ, List.setIfInBounds_toArray, List.set_cons_zero, List.set_cons_succ]
  refine wpAnyH_done (by kernel_rfl) ?_ _
  go_wp2
  go_returns
  exact Ret.mk hle hst3.swap2.drop.swap1 ⟨rfl, p, r, rfl, rfl⟩
abbrev outC (f : Fl) (P : Pk) (pv : Value) : Array Value := #[.bool P.marker, .int .i64 f.typ, .int .u16 f.seq, .int .u32 ((P.time + f.offset) % 4294967296), .int .u32 f.source, .slice none 0 0, .slice none 0 0, pv, .int .i64 0]
theorem PushQ.yes {M : List Res} {p : Nat} {f f1 : Fl} {layer : Int} {P : Pk} {bs : List UInt8} {now : Int} {v : Value} {M' : List Res} (h : PushQ M p f layer P bs now v M') (hp : pushS f layer P bs now = (f1, true, false)) :
    ∃ A c, v = .tuple #[.agg (outC f1 P (.slice A (payS f1 (beginsS f.codec bs).1 bs).length c)), .bool true, .bool false] ∧ (payS f1 (beginsS f.codec bs).1 bs).length ≤ c ∧
      M' = row 5 1 (.slice A (payS f1 (beginsS f.codec bs).1 bs).length c) (payS f1 (beginsS f.codec bs).1 bs).length (bvs (payS f1 (beginsS f.codec bs).1 bs)) :: bk p 64 (flC (sendS f1 P (beginsS f.codec bs).1 now)) :: M := by
  rcases h with ⟨f2, h1, h2⟩ | ⟨f2, ask, h1, _⟩
  · rw [hp] at h1
    injection h1 with h1 _
    rw [h1]
    exact h2
  · rw [hp] at h1
    injection h1 with _ h1
    injection h1 with h1 _
    cases h1
theorem PushQ.no {M : List Res} {p : Nat} {f f1 : Fl} {layer : Int} {P : Pk} {bs : List UInt8} {now : Int} {ask : Bool} {v : Value} {M' : List Res} (h : PushQ M p f layer P bs now v M') (hp : pushS f layer P bs now = (f1, false, ask)) :
    v = .tuple #[.agg zeroC, .bool false, .bool ask] ∧ M' = bk p 64 (flC f1) :: M := by
  rcases h with ⟨f2, h1, h2⟩ | ⟨f2, ask, h1, h2⟩
  · rw [hp] at h1
    injection h1 with _ h1
    injection h1 with h1 _
    cases h1
  · rw [hp] at h1
    injection h1 with h1 h3
    injection h3 with _ h3
    rw [h1, h3]
    exact h2
theorem push_awake : pushS (newFl ⟨#[120]⟩ 1000 7 96 100 5000) 0 ⟨false, 0, 9, 50, 0, .slice none 0 0, .slice none 0 0, 0⟩ [] 1 = ({ newFl ⟨#[120]⟩ 1000 7 96 100 5000 with offset := 4950, layer := 0, broken := false }, true, false) := by
  have h1 : isV ⟨#[120]⟩ = false := by unfold isV; rw [ByteArray.toList_eq]; rfl
  have h2 : isH ⟨#[120]⟩ = false := by unfold isH; rw [ByteArray.toList_eq]; rfl
  have h3 : frS (newFl ⟨#[120]⟩ 1000 7 96 100 5000) [] = true := by simp [frS, newFl, beginsS, h1, h2]
  unfold pushS
  rw [h3]
  rfl
set_option maxRecDepth 8000 in
set_option maxHeartbeats 4000000 in
theorem awakeC (I : Img) (M : List Res) (w : World) (hst : St I M w) : Calls Try.prog 8 #[] w (Ret I (fun v _ M' => v = .bool true ∧ M' = M)) := by
  have h17 := newC I M w hst ⟨#[120]⟩ 1000 7 96 100 5000
  clear hst
  go_enter Try.func8, Try.ntmps8
  go_wp2_with fail
  refine h17.mono ?_
  rintro e w1 ⟨_, _, _, rfl, hle1, hst1, rfl, p, rfl, rfl⟩
  have h11 := pushC I M w1 p (newFl ⟨#[120]⟩ 1000 7 96 100 5000) ⟨false, 0, 9, 50, 0, .slice none 0 0, .slice none 0 0, 0⟩ none 0 [] 0 1 hst1 (Byts.nil I none) (by simp) (fl0_ok (m := ⟨⟨#[120]⟩, 1000, 7, 96, 100, 5000⟩) ⟨by decide, by decide, by decide⟩) ⟨by decide, by decide⟩ (by decide)
  clear hst1 h17
  go_wp2_with fail
  refine h11.mono ?_
  rintro e w2 ⟨_, J, M2, rfl, hle, hst2, hq⟩
  obtain ⟨A, c, rfl, hc, rfl⟩ := PushQ.yes hq push_awake
  clear h11 hq
  rw [show outC { newFl ⟨#[120]⟩ 1000 7 96 100 5000 with offset := 4950, layer := 0, broken := false } ⟨false, 0, 9, 50, 0, .slice none 0 0, .slice none 0 0, 0⟩ _ = #[.bool false, .int .i64 96, .int .u16 100, .int .u32 5000, .int .u32 7, .slice none 0 0, .slice none 0 0, _, .int .i64 0] from rfl]
  generalize List.length _ = n at hc hst2 ⊢
  have HH := Lib.hid hst2
  clear hst2
  go_wp2
  go_returns
  exact Ret.mk hle (HH.out.drop.drop.alloc _ _).drop ⟨rfl, rfl⟩
end Go.Proofs.Ytaemohkmingnpaa
