/- room.House: Leave. -/
import Derived.Test.YtbaobonlolbnpaaRoI
namespace Go.Proofs.Ytbaobonlolbnpaa
open Go.RowKit
set_option linter.unusedSimpArgs false

def leaveS (h : Ho) (id : Int) : Ho × Int :=
  if mem? h id = none then (h, 7) else ({ h with ss := h.ss.filter (fun s => !(s.member == id || ownerS h s.track == id)), ts := h.ts.filter (fun t => !(t.member == id)), ms := h.ms.filter (fun m => !(m.id == id)) }, 0)
theorem cell1 {w : World} {g t : Nat} {a : Value} (h : Blk w g t #[a]) : w.cell? ⟨g, 0, none⟩ = some a := h.cell 0
set_option maxRecDepth 8000 in
set_option maxHeartbeats 4000000 in
theorem leaveC (I : Img) (M : List Res) (w : World) (p : Nat) (h : Ho) (vM vT vS : Value) (id : Int) (hst : St I (hou p h vM vT vS M) w) (hlm : h.ms.length ≤ 1000000) (hlt : h.ts.length ≤ 1000000) (hls : h.ss.length ≤ 1000000) (htr : ∀ s ∈ h.ss, trk? h s.track ≠ none) :
    Calls Try.prog 15 #[.pointer (some ⟨p, 0, none⟩), .int .i64 id] w (Ret I (fun v J M' => I = J ∧ HQ p M (leaveS h id) v M')) := by
  have hs1 := ((hst.alloc 24 #[.pointer (some ⟨p, 0, none⟩)]).dn4.alloc 3 #[.int .i64 id]).dn4
  rw [show (w.alloc (Obj.cells #[.pointer (some ⟨p, 0, none⟩)] 24)).heap.size = w.heap.size + 1 from World.size_alloc _ _] at hs1
  obtain ⟨y0, _, hb2⟩ := Blk.one (hs1.at 4 rfl)
  obtain ⟨z0, _, hb1⟩ := Blk.one (hs1.at 5 rfl)
  have hm := memberC I _ _ p h vM vT vS id hs1 (by omega)
  have H1 := Lib.hid hs1
  clear hst hs1
  go_enter Try.func15, Try.ntmps15
  go_wp2_with fail
  refine hm.mono ?_
  rintro e w' ⟨hw', r, rfl, hr2⟩
  subst w'
  rcases hr2.find H1.out with ⟨hf, rfl⟩ | ⟨m, g, o, hf, rfl, hg, hcell⟩
  · have HE := Lib.hid (show leaveS h id = (h, 7) by unfold leaveS; rw [if_pos hf])
    clear hm hr2 hf
    go_wp2
    go_returns
    refine Ret.mk (.refl I) H1.out.up4.drop.up4.drop ⟨rfl, ⟨by rw [HE.out]; rfl, vM, vT, vS, by rw [HE.out]⟩⟩
  have HE := Lib.hid (show leaveS h id = ({ h with ss := h.ss.filter (fun s => !(s.member == id || ownerS h s.track == id)), ts := h.ts.filter (fun t => !(t.member == id)), ms := h.ms.filter (fun m => !(m.id == id)) }, 0) by unfold leaveS; rw [if_neg (by rw [hf]; simp)])
  clear hm hr2 hf hcell hg
  obtain ⟨A, c, rfl⟩ := own_form (show World.ownsRow _ 0 47 4 vT _ _ from H1.out.at 1 rfl)
  obtain ⟨B, cb, rfl⟩ := own_form (show World.ownsRow _ 0 49 3 vS _ _ from H1.out.at 2 rfl)
  obtain ⟨C, cc, rfl⟩ := own_form (show World.ownsRow _ 0 73 5 vM _ _ from H1.out.at 0 rfl)
  go_upto_region 5 with fail
  have hs := H1.out.drew
  clear H1 y0 z0 hb1 hb2
  have HD := Lib.hid (fun W (hW : St I (hou p { h with ms := h.ms, ts := h.ts, ss := h.ss } (.slice C h.ms.length cc) (.slice A h.ts.length c) (.slice B h.ss.length cb) (bk (w.heap.size + 1) 3 #[.int .i64 id] :: bk w.heap.size 24 #[.pointer (some ⟨p, 0, none⟩)] :: M)) W) => delSC I _ W B cb 36 #[.pointer (some ⟨w.heap.size + 1, 0, none⟩), .pointer (some ⟨w.heap.size, 0, none⟩)] h.ss (fun x => x.member == id || ownerS h x.track == id) eg36 (fun g cur W hW x hx => c36 I _ W p _ _ h _ _ _ x id hW.drop.swap1.drop (by omega) (cell1 (hW.at 4 rfl)) (cell1 (hW.at 5 rfl)) (htr x hx)) hW.swap2 hls)
  have hs : St I (hou p { h with ms := h.ms, ts := h.ts, ss := h.ss } (.slice C h.ms.length cc) (.slice A h.ts.length c) (.slice B h.ss.length cb) (bk (w.heap.size + 1) 3 #[.int .i64 id] :: bk w.heap.size 24 #[.pointer (some ⟨p, 0, none⟩)] :: M)) _ := hs
  refine wp_region_held_drew (S := (fun w' => w'.cell? ⟨w.heap.size, 0, none⟩ = some (.pointer (some ⟨p, 0, none⟩)))) (by kernel_rfl) (by (try dsimp only); exact cell1 (hs.at 5 rfl)) (fun hHeld => ?_)
  generalize World.drew _ = W at hs hHeld ⊢
  refine wpAnyH_take (i := 0) (oi := _) (v := ?_) rfl (by kernel_rfl) (by kernel_rfl) (by kernel_rfl) (fun _ _ _ h => h) (Or.inl ⟨by rfl, ?_⟩) (by assumption) ?_
  rotate_left
  · (intro w hSw; (try dsimp only at hSw); go_simp; try with_reducible rfl)
  try simp only [Act.put, List.getElem_toArray, List.getElem_cons_zero, List.getElem_cons_succ, List.setIfInBounds_toArray, List.set_cons_zero, List.set_cons_succ]
  refine wpAnyH_take (i := 1) (oi := _) (v := ?_) rfl (by kernel_rfl) (by kernel_rfl) (by kernel_rfl) (fun _ _ _ h => h) (Or.inl ⟨by rfl, ?_⟩) (by assumption) ?_
  rotate_left
  · (intro w hSw; (try dsimp only at hSw); go_simp; try with_reducible rfl)
  try simp only [Act.put, List.getElem_toArray, List.getElem_cons_zero, List.getElem_cons_succ, List.setIfInBounds_toArray, List.set_cons_zero, List.set_cons_succ]
  refine wpAnyH_take (i := 2) (oi := _) (v := ?_) rfl (by kernel_rfl) (by kernel_rfl) (by kernel_rfl) (fun _ _ _ h => h) (Or.inl ⟨by rfl, ?_⟩) (by assumption) ?_
  rotate_left
  · (intro w hSw; (try dsimp only at hSw); go_simp; try with_reducible rfl)
  try simp only [Act.put, List.getElem_toArray, List.getElem_cons_zero, List.getElem_cons_succ, List.setIfInBounds_toArray, List.set_cons_zero, List.set_cons_succ]
  refine wpAnyH_take (i := 3) (oi := _) (v := ?_) rfl (by kernel_rfl) (by kernel_rfl) (by kernel_rfl) (fun _ _ _ h => h) (Or.inl ⟨by rfl, ?_⟩) (by assumption) ?_
  rotate_left
  · (intro w hSw; (try dsimp only at hSw); go_simp; try with_reducible rfl)
  try simp only [Act.put, List.getElem_toArray, List.getElem_cons_zero, List.getElem_cons_succ, List.setIfInBounds_toArray, List.set_cons_zero, List.set_cons_succ]
  refine wpAnyH_take (i := 5) (oi := _) (v := ?_) rfl (by kernel_rfl) (by kernel_rfl) (by kernel_rfl) (fun _ _ _ h => h) (Or.inl ⟨by rfl, ?_⟩) (by assumption) ?_
  rotate_left
  · (intro w hSw; (try dsimp only at hSw); go_simp; try with_reducible rfl)
  try simp only [Act.put, List.getElem_toArray, List.getElem_cons_zero, List.getElem_cons_succ, List.setIfInBounds_toArray, List.set_cons_zero, List.set_cons_succ]
  refine wpAnyH_ready (rs := [4]) (by kernel_rfl) (by simp) ?_
  refine (AllReadyH.cons (o := _) rfl (fun K hK => ?_) AllReadyH.nil)
  have hcQ : W.cell? ⟨p, 2, none⟩ = some (.slice B h.ss.length cb) := Blk.cell (hs.at 3 rfl) 2
  go_simp
  try clear hHeld
  refine hK.out _ _ (by (try dsimp only); exact cell1 (hs.at 5 rfl)) (fun hHeld => ?_)
  clear hK K
  try simp only [Act.put, List.getElem_toArray, List.getElem_cons_zero, List.getElem_cons_succ, List.setIfInBounds_toArray, List.set_cons_zero, List.set_cons_succ]
  clear hcQ
  refine wpAnyH_ready (rs := [6]) (by kernel_rfl) (by simp) ?_
  refine (AllReadyH.cons (o := _) rfl (fun K hK => ?_) AllReadyH.nil)
  go_simp
  refine (HD.out W hs).mono ?_
  rintro e W2 ⟨_, _, _, rfl, hle, hs2, rfl, rfl, rfl⟩
  obtain ⟨ss', hnew⟩ : ∃ l, l = h.ss.filter (fun x => !(x.member == id || ownerS h x.track == id)) := ⟨_, rfl⟩
  rw [← hnew] at hs2 HE ⊢
  replace hs := hs2.swap2
  clear hs2 HD hle hnew
  try clear hHeld
  refine hK.out _ _ (by (try dsimp only); exact cell1 (hs.at 5 rfl)) (fun hHeld => ?_)
  clear hK K
  try simp only [Act.put, List.getElem_toArray, List.getElem_cons_zero, List.getElem_cons_succ, List.setIfInBounds_toArray, List.set_cons_zero, List.set_cons_succ]
  refine wpAnyH_take (i := 7) (oi := _) (v := ?_) rfl (by kernel_rfl) (by kernel_rfl) (by kernel_rfl) (fun _ _ _ h => h) (Or.inl ⟨by rfl, ?_⟩) (by assumption) ?_
  rotate_left
  · (intro w hSw; (try dsimp only at hSw); go_simp; try with_reducible rfl)
  try simp only [Act.put, List.getElem_toArray, List.getElem_cons_zero, List.getElem_cons_succ, List.setIfInBounds_toArray, List.set_cons_zero, List.set_cons_succ]
  refine wpAnyH_take (i := 8) (oi := _) (v := ?_) rfl (by kernel_rfl) (by kernel_rfl) (by kernel_rfl) (fun _ _ _ h => h) (Or.inl ⟨by rfl, ?_⟩) (by assumption) ?_
  rotate_left
  · (intro w hSw; (try dsimp only at hSw); go_simp; try with_reducible rfl)
  try simp only [Act.put, List.getElem_toArray, List.getElem_cons_zero, List.getElem_cons_succ, List.setIfInBounds_toArray, List.set_cons_zero, List.set_cons_succ]
  refine wpAnyH_ready (rs := [9]) (by kernel_rfl) (by simp) ?_
  refine (AllReadyH.cons (o := _) rfl (fun K hK => ?_) AllReadyH.nil)
  obtain ⟨hcQ, hfQ, hlQ⟩ := Blk.all (show Blk _ p 66 _ from hs.at 3 rfl)
  go_simp
  replace hs := hs.set3 2 (.slice B ss'.length cb)
  try clear hHeld
  refine hK.out _ _ (by (try dsimp only); exact cell1 (hs.at 5 rfl)) (fun hHeld => ?_)
  clear hK K
  try simp only [Act.put, List.getElem_toArray, List.getElem_cons_zero, List.getElem_cons_succ, List.setIfInBounds_toArray, List.set_cons_zero, List.set_cons_succ]
  clear hcQ hfQ hlQ
  refine wpAnyH_done (by kernel_rfl) ?_ _
  generalize World.setCell _ _ _ = W at hs ⊢
  have hs0 : St I (hou p { h with ms := h.ms, ts := h.ts, ss := ss' } (.slice C h.ms.length cc) (.slice A h.ts.length c) (.slice B ss'.length cb) (bk (w.heap.size + 1) 3 #[.int .i64 id] :: bk w.heap.size 24 #[.pointer (some ⟨p, 0, none⟩)] :: M)) W := hs
  clear hs
  clear hHeld
  have hcR := cell1 (hs0.at 5 rfl)
  have hlR := Blk.lt (hs0.at 5 rfl)
  go_upto_region 6 with fail
  have hs := hs0.drew
  clear hcR hlR hs0
  have HD := Lib.hid (fun W (hW : St I (hou p { h with ms := h.ms, ts := h.ts, ss := ss' } (.slice C h.ms.length cc) (.slice A h.ts.length c) (.slice B ss'.length cb) (bk (w.heap.size + 1) 3 #[.int .i64 id] :: bk w.heap.size 24 #[.pointer (some ⟨p, 0, none⟩)] :: M)) W) => delTC I _ W A c 39 #[.pointer (some ⟨w.heap.size + 1, 0, none⟩)] h.ts (fun x => x.member == id) eg39 (fun g cur W hW x _ => c39 W x _ id (cell1 (hW.at 4 rfl))) hW.swap1 hlt)
  have hs : St I (hou p { h with ms := h.ms, ts := h.ts, ss := ss' } (.slice C h.ms.length cc) (.slice A h.ts.length c) (.slice B ss'.length cb) (bk (w.heap.size + 1) 3 #[.int .i64 id] :: bk w.heap.size 24 #[.pointer (some ⟨p, 0, none⟩)] :: M)) _ := hs
  refine wp_region_held_drew (S := (fun w' => w'.cell? ⟨w.heap.size, 0, none⟩ = some (.pointer (some ⟨p, 0, none⟩)))) (by kernel_rfl) (by (try dsimp only); exact cell1 (hs.at 5 rfl)) (fun hHeld => ?_)
  generalize World.drew _ = W at hs hHeld ⊢
  refine wpAnyH_take (i := 0) (oi := _) (v := ?_) rfl (by kernel_rfl) (by kernel_rfl) (by kernel_rfl) (fun _ _ _ h => h) (Or.inl ⟨by rfl, ?_⟩) (by assumption) ?_
  rotate_left
  · (intro w hSw; (try dsimp only at hSw); go_simp; try with_reducible rfl)
  try simp only [Act.put, List.getElem_toArray, List.getElem_cons_zero, List.getElem_cons_succ, List.setIfInBounds_toArray, List.set_cons_zero, List.set_cons_succ]
  refine wpAnyH_take (i := 1) (oi := _) (v := ?_) rfl (by kernel_rfl) (by kernel_rfl) (by kernel_rfl) (fun _ _ _ h => h) (Or.inl ⟨by rfl, ?_⟩) (by assumption) ?_
  rotate_left
  · (intro w hSw; (try dsimp only at hSw); go_simp; try with_reducible rfl)
  try simp only [Act.put, List.getElem_toArray, List.getElem_cons_zero, List.getElem_cons_succ, List.setIfInBounds_toArray, List.set_cons_zero, List.set_cons_succ]
  refine wpAnyH_take (i := 2) (oi := _) (v := ?_) rfl (by kernel_rfl) (by kernel_rfl) (by kernel_rfl) (fun _ _ _ h => h) (Or.inl ⟨by rfl, ?_⟩) (by assumption) ?_
  rotate_left
  · (intro w hSw; (try dsimp only at hSw); go_simp; try with_reducible rfl)
  try simp only [Act.put, List.getElem_toArray, List.getElem_cons_zero, List.getElem_cons_succ, List.setIfInBounds_toArray, List.set_cons_zero, List.set_cons_succ]
  refine wpAnyH_take (i := 3) (oi := _) (v := ?_) rfl (by kernel_rfl) (by kernel_rfl) (by kernel_rfl) (fun _ _ _ h => h) (Or.inl ⟨by rfl, ?_⟩) (by assumption) ?_
  rotate_left
  · (intro w hSw; (try dsimp only at hSw); go_simp; try with_reducible rfl)
  try simp only [Act.put, List.getElem_toArray, List.getElem_cons_zero, List.getElem_cons_succ, List.setIfInBounds_toArray, List.set_cons_zero, List.set_cons_succ]
  refine wpAnyH_take (i := 5) (oi := _) (v := ?_) rfl (by kernel_rfl) (by kernel_rfl) (by kernel_rfl) (fun _ _ _ h => h) (Or.inl ⟨by rfl, ?_⟩) (by assumption) ?_
  rotate_left
  · (intro w hSw; (try dsimp only at hSw); go_simp; try with_reducible rfl)
  try simp only [Act.put, List.getElem_toArray, List.getElem_cons_zero, List.getElem_cons_succ, List.setIfInBounds_toArray, List.set_cons_zero, List.set_cons_succ]
  refine wpAnyH_ready (rs := [4]) (by kernel_rfl) (by simp) ?_
  refine (AllReadyH.cons (o := _) rfl (fun K hK => ?_) AllReadyH.nil)
  have hcQ : W.cell? ⟨p, 1, none⟩ = some (.slice A h.ts.length c) := Blk.cell (hs.at 3 rfl) 1
  go_simp
  try clear hHeld
  refine hK.out _ _ (by (try dsimp only); exact cell1 (hs.at 5 rfl)) (fun hHeld => ?_)
  clear hK K
  try simp only [Act.put, List.getElem_toArray, List.getElem_cons_zero, List.getElem_cons_succ, List.setIfInBounds_toArray, List.set_cons_zero, List.set_cons_succ]
  clear hcQ
  refine wpAnyH_ready (rs := [6]) (by kernel_rfl) (by simp) ?_
  refine (AllReadyH.cons (o := _) rfl (fun K hK => ?_) AllReadyH.nil)
  go_simp
  refine (HD.out W hs).mono ?_
  rintro e W2 ⟨_, _, _, rfl, hle, hs2, rfl, rfl, rfl⟩
  obtain ⟨ts', hnew⟩ : ∃ l, l = h.ts.filter (fun x => !(x.member == id)) := ⟨_, rfl⟩
  rw [← hnew] at hs2 HE ⊢
  replace hs := hs2.swap1
  clear hs2 HD hle hnew
  try clear hHeld
  refine hK.out _ _ (by (try dsimp only); exact cell1 (hs.at 5 rfl)) (fun hHeld => ?_)
  clear hK K
  try simp only [Act.put, List.getElem_toArray, List.getElem_cons_zero, List.getElem_cons_succ, List.setIfInBounds_toArray, List.set_cons_zero, List.set_cons_succ]
  refine wpAnyH_take (i := 7) (oi := _) (v := ?_) rfl (by kernel_rfl) (by kernel_rfl) (by kernel_rfl) (fun _ _ _ h => h) (Or.inl ⟨by rfl, ?_⟩) (by assumption) ?_
  rotate_left
  · (intro w hSw; (try dsimp only at hSw); go_simp; try with_reducible rfl)
  try simp only [Act.put, List.getElem_toArray, List.getElem_cons_zero, List.getElem_cons_succ, List.setIfInBounds_toArray, List.set_cons_zero, List.set_cons_succ]
  refine wpAnyH_take (i := 8) (oi := _) (v := ?_) rfl (by kernel_rfl) (by kernel_rfl) (by kernel_rfl) (fun _ _ _ h => h) (Or.inl ⟨by rfl, ?_⟩) (by assumption) ?_
  rotate_left
  · (intro w hSw; (try dsimp only at hSw); go_simp; try with_reducible rfl)
  try simp only [Act.put, List.getElem_toArray, List.getElem_cons_zero, List.getElem_cons_succ, List.setIfInBounds_toArray, List.set_cons_zero, List.set_cons_succ]
  refine wpAnyH_ready (rs := [9]) (by kernel_rfl) (by simp) ?_
  refine (AllReadyH.cons (o := _) rfl (fun K hK => ?_) AllReadyH.nil)
  obtain ⟨hcQ, hfQ, hlQ⟩ := Blk.all (show Blk _ p 66 _ from hs.at 3 rfl)
  go_simp
  replace hs := hs.set3 1 (.slice A ts'.length c)
  try clear hHeld
  refine hK.out _ _ (by (try dsimp only); exact cell1 (hs.at 5 rfl)) (fun hHeld => ?_)
  clear hK K
  try simp only [Act.put, List.getElem_toArray, List.getElem_cons_zero, List.getElem_cons_succ, List.setIfInBounds_toArray, List.set_cons_zero, List.set_cons_succ]
  clear hcQ hfQ hlQ
  refine wpAnyH_done (by kernel_rfl) ?_ _
  generalize World.setCell _ _ _ = W at hs ⊢
  have hs0 : St I (hou p { h with ms := h.ms, ts := ts', ss := ss' } (.slice C h.ms.length cc) (.slice A ts'.length c) (.slice B ss'.length cb) (bk (w.heap.size + 1) 3 #[.int .i64 id] :: bk w.heap.size 24 #[.pointer (some ⟨p, 0, none⟩)] :: M)) W := hs
  clear hs
  clear hHeld
  have hcR := cell1 (hs0.at 5 rfl)
  have hlR := Blk.lt (hs0.at 5 rfl)
  go_upto_region 7 with fail
  have hs := hs0.drew
  clear hcR hlR hs0
  have HD := Lib.hid (fun W (hW : St I (hou p { h with ms := h.ms, ts := ts', ss := ss' } (.slice C h.ms.length cc) (.slice A ts'.length c) (.slice B ss'.length cb) (bk (w.heap.size + 1) 3 #[.int .i64 id] :: bk w.heap.size 24 #[.pointer (some ⟨p, 0, none⟩)] :: M)) W) => delMC I _ W C cc 41 #[.pointer (some ⟨w.heap.size + 1, 0, none⟩)] h.ms (fun x => x.id == id) eg41 (fun g cur W hW x _ => c41 W x _ id (cell1 (hW.at 4 rfl))) hW hlm)
  have hs : St I (hou p { h with ms := h.ms, ts := ts', ss := ss' } (.slice C h.ms.length cc) (.slice A ts'.length c) (.slice B ss'.length cb) (bk (w.heap.size + 1) 3 #[.int .i64 id] :: bk w.heap.size 24 #[.pointer (some ⟨p, 0, none⟩)] :: M)) _ := hs
  refine wp_region_held_drew (S := (fun w' => w'.cell? ⟨w.heap.size, 0, none⟩ = some (.pointer (some ⟨p, 0, none⟩)))) (by kernel_rfl) (by (try dsimp only); exact cell1 (hs.at 5 rfl)) (fun hHeld => ?_)
  generalize World.drew _ = W at hs hHeld ⊢
  refine wpAnyH_take (i := 0) (oi := _) (v := ?_) rfl (by kernel_rfl) (by kernel_rfl) (by kernel_rfl) (fun _ _ _ h => h) (Or.inl ⟨by rfl, ?_⟩) (by assumption) ?_
  rotate_left
  · (intro w hSw; (try dsimp only at hSw); go_simp; try with_reducible rfl)
  try simp only [Act.put, List.getElem_toArray, List.getElem_cons_zero, List.getElem_cons_succ, List.setIfInBounds_toArray, List.set_cons_zero, List.set_cons_succ]
  refine wpAnyH_take (i := 1) (oi := _) (v := ?_) rfl (by kernel_rfl) (by kernel_rfl) (by kernel_rfl) (fun _ _ _ h => h) (Or.inl ⟨by rfl, ?_⟩) (by assumption) ?_
  rotate_left
  · (intro w hSw; (try dsimp only at hSw); go_simp; try with_reducible rfl)
  try simp only [Act.put, List.getElem_toArray, List.getElem_cons_zero, List.getElem_cons_succ, List.setIfInBounds_toArray, List.set_cons_zero, List.set_cons_succ]
  refine wpAnyH_take (i := 2) (oi := _) (v := ?_) rfl (by kernel_rfl) (by kernel_rfl) (by kernel_rfl) (fun _ _ _ h => h) (Or.inl ⟨by rfl, ?_⟩) (by assumption) ?_
  rotate_left
  · (intro w hSw; (try dsimp only at hSw); go_simp; try with_reducible rfl)
  try simp only [Act.put, List.getElem_toArray, List.getElem_cons_zero, List.getElem_cons_succ, List.setIfInBounds_toArray, List.set_cons_zero, List.set_cons_succ]
  refine wpAnyH_take (i := 3) (oi := _) (v := ?_) rfl (by kernel_rfl) (by kernel_rfl) (by kernel_rfl) (fun _ _ _ h => h) (Or.inl ⟨by rfl, ?_⟩) (by assumption) ?_
  rotate_left
  · (intro w hSw; (try dsimp only at hSw); go_simp; try with_reducible rfl)
  try simp only [Act.put, List.getElem_toArray, List.getElem_cons_zero, List.getElem_cons_succ, List.setIfInBounds_toArray, List.set_cons_zero, List.set_cons_succ]
  refine wpAnyH_take (i := 5) (oi := _) (v := ?_) rfl (by kernel_rfl) (by kernel_rfl) (by kernel_rfl) (fun _ _ _ h => h) (Or.inl ⟨by rfl, ?_⟩) (by assumption) ?_
  rotate_left
  · (intro w hSw; (try dsimp only at hSw); go_simp; try with_reducible rfl)
  try simp only [Act.put, List.getElem_toArray, List.getElem_cons_zero, List.getElem_cons_succ, List.setIfInBounds_toArray, List.set_cons_zero, List.set_cons_succ]
  refine wpAnyH_ready (rs := [4]) (by kernel_rfl) (by simp) ?_
  refine (AllReadyH.cons (o := _) rfl (fun K hK => ?_) AllReadyH.nil)
  have hcQ : W.cell? ⟨p, 0, none⟩ = some (.slice C h.ms.length cc) := Blk.cell (hs.at 3 rfl) 0
  go_simp
  try clear hHeld
  refine hK.out _ _ (by (try dsimp only); exact cell1 (hs.at 5 rfl)) (fun hHeld => ?_)
  clear hK K
  try simp only [Act.put, List.getElem_toArray, List.getElem_cons_zero, List.getElem_cons_succ, List.setIfInBounds_toArray, List.set_cons_zero, List.set_cons_succ]
  clear hcQ
  refine wpAnyH_ready (rs := [6]) (by kernel_rfl) (by simp) ?_
  refine (AllReadyH.cons (o := _) rfl (fun K hK => ?_) AllReadyH.nil)
  go_simp
  refine (HD.out W hs).mono ?_
  rintro e W2 ⟨_, _, _, rfl, hle, hs2, rfl, rfl, rfl⟩
  obtain ⟨ms', hnew⟩ : ∃ l, l = h.ms.filter (fun x => !(x.id == id)) := ⟨_, rfl⟩
  rw [← hnew] at hs2 HE ⊢
  replace hs := hs2
  clear hs2 HD hle hnew
  try clear hHeld
  refine hK.out _ _ (by (try dsimp only); exact cell1 (hs.at 5 rfl)) (fun hHeld => ?_)
  clear hK K
  try simp only [Act.put, List.getElem_toArray, List.getElem_cons_zero, List.getElem_cons_succ, List.setIfInBounds_toArray, List.set_cons_zero, List.set_cons_succ]
  refine wpAnyH_take (i := 7) (oi := _) (v := ?_) rfl (by kernel_rfl) (by kernel_rfl) (by kernel_rfl) (fun _ _ _ h => h) (Or.inl ⟨by rfl, ?_⟩) (by assumption) ?_
  rotate_left
  · (intro w hSw; (try dsimp only at hSw); go_simp; try with_reducible rfl)
  try simp only [Act.put, List.getElem_toArray, List.getElem_cons_zero, List.getElem_cons_succ, List.setIfInBounds_toArray, List.set_cons_zero, List.set_cons_succ]
  refine wpAnyH_take (i := 8) (oi := _) (v := ?_) rfl (by kernel_rfl) (by kernel_rfl) (by kernel_rfl) (fun _ _ _ h => h) (Or.inl ⟨by rfl, ?_⟩) (by assumption) ?_
  rotate_left
  · (intro w hSw; (try dsimp only at hSw); go_simp; try with_reducible rfl)
  try simp only [Act.put, List.getElem_toArray, List.getElem_cons_zero, List.getElem_cons_succ, List.setIfInBounds_toArray, List.set_cons_zero, List.set_cons_succ]
  refine wpAnyH_ready (rs := [9]) (by kernel_rfl) (by simp) ?_
  refine (AllReadyH.cons (o := _) rfl (fun K hK => ?_) AllReadyH.nil)
  obtain ⟨hcQ, hfQ, hlQ⟩ := Blk.all (show Blk _ p 66 _ from hs.at 3 rfl)
  go_simp
  replace hs := hs.set3 0 (.slice C ms'.length cc)
  try clear hHeld
  refine hK.out _ _ (by (try dsimp only); exact cell1 (hs.at 5 rfl)) (fun hHeld => ?_)
  clear hK K
  try simp only [Act.put, List.getElem_toArray, List.getElem_cons_zero, List.getElem_cons_succ, List.setIfInBounds_toArray, List.set_cons_zero, List.set_cons_succ]
  clear hcQ hfQ hlQ
  refine wpAnyH_done (by kernel_rfl) ?_ _
  generalize World.setCell _ _ _ = W at hs ⊢
  have hs0 : St I (hou p { h with ms := ms', ts := ts', ss := ss' } (.slice C ms'.length cc) (.slice A ts'.length c) (.slice B ss'.length cb) (bk (w.heap.size + 1) 3 #[.int .i64 id] :: bk w.heap.size 24 #[.pointer (some ⟨p, 0, none⟩)] :: M)) W := hs
  clear hs
  have HS := Lib.hid hs0
  clear hs0 hHeld
  go_wp2
  go_returns
  refine Ret.mk (.refl I) HS.out.up4.drop.up4.drop ⟨rfl, ⟨by rw [HE.out]; rfl, _, _, _, by rw [HE.out]⟩⟩
end Go.Proofs.Ytbaobonlolbnpaa
