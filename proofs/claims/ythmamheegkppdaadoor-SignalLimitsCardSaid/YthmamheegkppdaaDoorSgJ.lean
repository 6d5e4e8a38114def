/- rostrumref01.SameTexts, rostrumref24.Same; the law's theirs, ours. -/
import Derived.Test.YthmamheegkppdaaDoorSgI
namespace Go.Proofs.YthmamheegkppdaaDoor
open Go.RowKit
set_option linter.unusedSimpArgs false

theorem toList_ne {a b : ByteArray} (h : a ≠ b) : (a.toList == b.toList) = false := by
  rw [beq_eq_false_iff_ne, ByteArray.toList_eq, ByteArray.toList_eq]
  exact fun e => h (ls_inj e)
set_option maxHeartbeats 1000000 in
theorem sameTextsP (I : Img) (M : List Res) (w : World) (A B : Option Addr) (ca cb : Nat) (la lb : List ByteArray) (hst : St I M w) (hA : Cells I A (strs la)) (hB : Cells I B (strs lb)) (hla : la.length ≤ 140737488351232) (hlb : lb.length ≤ 140737488351232) :
    Calls Tryd.prog 28 #[.slice A la.length ca, .slice B lb.length cb] w (Ret I (fun v J M' => I = J ∧ M' = M ∧ v = .bool (decide (la = lb)))) := by
  have HA := Lib.hid hA
  have HB := Lib.hid hB
  have HS := Lib.hid hst
  clear hA hB hst
  by_cases hl : la.length = lb.length
  rotate_left
  · have HE := Lib.hid (show decide (la = lb) = false from decide_eq_false (fun e => hl (by rw [e])))
    have hn : ((la.length : Int) != (lb.length : Int)) = true := by
      simp only [bne_iff_ne, ne_eq]; omega
    clear hl
    go_enter Tryd.func28, Tryd.ntmps28
    go_wp2
    go_ret
    exact Ret.mk (.refl I) HS.out ⟨rfl, rfl, congrArg Value.bool HE.out.symm⟩
  have hn : ((la.length : Int) != (lb.length : Int)) = false := by rw [hl]; simp
  have HL := Lib.hid hl
  clear hl
  go_enter Tryd.func28, Tryd.ntmps28
  go_wp2
  go_loopw [13] (fun kv wr => ∃ k : Nat, k ≤ la.length ∧ kv = .int .i64 k ∧ Hid (la.take k = lb.take k ∧ St I M wr)) (fun kv _ => la.length - (intOf kv).toNat)
  case atStart => exact ⟨0, Nat.zero_le _, rfl, Lib.hid ⟨by simp, HS.out⟩⟩
  case round =>
    obtain ⟨k, hk, rfl, HH⟩ := hrel
    clear HS
    by_cases hlt : k < la.length
    rotate_left
    · obtain rfl : k = la.length := by omega
      have HE := Lib.hid (show decide (la = lb) = true from by
        have := HH.out.1
        rw [List.take_length, HL.out, List.take_length] at this
        exact decide_eq_true this)
      have HS := Lib.hid HH.out.2
      clear HH hlt
      go_wp2
      go_ret
      exact Ret.mk (.refl I) HS.out ⟨rfl, rfl, congrArg Value.bool HE.out.symm⟩
    have hlt2 : k < lb.length := by rw [← HL.out]; exact hlt
    obtain ⟨g, o, rfl, y0⟩ := HA.out.strAt HH.out.2 hlt
    obtain ⟨g', o', rfl, z0⟩ := HB.out.strAt HH.out.2 hlt2
    have hltI : (k : Int) < la.length := by omega
    have hltJ : (k : Int) < lb.length := by omega
    have HT := Lib.hid (show la[k] = lb[k] → la.take (k + 1) = lb.take (k + 1) from fun e => by
      rw [List.take_succ_eq_append_getElem hlt, List.take_succ_eq_append_getElem hlt2, HH.out.1, e])
    have HN := Lib.hid (show la[k] ≠ lb[k] → decide (la = lb) = false from fun h => decide_eq_false (fun e => h (by subst e; rfl)))
    generalize la[k] = a at y0 HT HN
    generalize lb[k] = b at z0 HT HN
    by_cases hab : a = b
    · subst hab
      have HT2 := Lib.hid (HT.out rfl)
      have hne : (a.toList != a.toList) = false := by simp
      clear HT HN
      go_upto_region 6 with fail
      go_quiet (fail)
      have HS2 := Lib.hid (HH.out.2.drewN nq)
      go_wp2
      go_roundw
      case rel => exact ⟨k + 1, by omega, by go_num, Lib.hid ⟨HT2.out, HS2.out⟩⟩
      case measure => simp [intOf]; omega
    · have HE := Lib.hid (HN.out hab)
      have heq := toList_ne hab
      have hne : (a.toList != b.toList) = true := by simp [bne, heq]
      clear HT HN
      go_upto_region 6 with fail
      go_quiet (fail)
      have HS2 := Lib.hid (HH.out.2.drewN nq)
      go_wp2
      go_ret
      exact Ret.mk (.refl I) HS2.out ⟨rfl, rfl, congrArg Value.bool HE.out.symm⟩
set_option maxRecDepth 8000 in
set_option maxHeartbeats 1000000 in
theorem sameP (I : Img) (M : List Res) (w : World) (A B : Option Addr) (ca cb : Nat) (m : Msg) (hst : St I M w) (hA : Cells I A (strs m.args)) (hB : Cells I B (strs m.args)) (hl : m.args.length ≤ 140737488351232) :
    Calls Tryd.prog 14 #[.agg (msgC m (.slice A m.args.length ca)), .agg (msgC m (.slice B m.args.length cb))] w (Ret I (fun v J M' => I = J ∧ M' = M ∧ v = .bool true)) := by
  have hs := (hst.alloc 24 (msgC m (.slice A m.args.length ca))).alloc 24 (msgC m (.slice B m.args.length cb))
  rw [World.size_alloc] at hs
  obtain ⟨b, hb⟩ : ∃ b, b = w.heap.size := ⟨_, rfl⟩
  rw [← hb] at hs
  clear hst
  go_enter Tryd.func14, Tryd.ntmps14
  go_upto_region 1 with fail
  rw [← hb]
  clear hb
  generalize World.alloc _ _ = W at hs ⊢
  obtain ⟨y0, y1, y2, -⟩ := Blk.three (show Blk W b 24 #[.string m.verb, .slice A m.args.length ca, .string m.body] from hs.at 1 rfl)
  obtain ⟨z0, z1, z2, -⟩ := Blk.three (show Blk W (b + 1) 24 #[.string m.verb, .slice B m.args.length cb, .string m.body] from hs.at 0 rfl)
  have hc := sameTextsP I _ W A B ca cb m.args m.args hs hA hB hl hl
  rw [decide_eq_true rfl] at hc
  have HC := Lib.hid hc
  clear hc hs
  go_wp2_with fail
  go_at_call 28
  refine HC.out.mono ?_
  rintro e w2 ⟨_, _, _, rfl, _, hs, rfl, rfl, rfl⟩
  go_wp2
  go_ret
  exact Ret.mk (.refl I) hs.drop.drop ⟨rfl, rfl, rfl⟩
theorem size24 : (Tryd.prog.info? 24).map (·.size) = some 3 := by kernel_rfl
set_option maxRecDepth 8000 in
set_option maxHeartbeats 1000000 in
theorem oursP (I : Img) (M : List Res) (w : World) (m : Msg) (V : Value) (hV : ∃ A n c, V = .slice A n c) (hst : St I M w) :
    Calls Tryd.prog 15 #[.agg (msgC m V)] w (Ret I (fun v J M' => I = J ∧ M' = M ∧ v = .agg (msgC m V))) := by
  obtain ⟨A, n, c, rfl⟩ := hV
  have hs := (hst.alloc 30 (msgC m (.slice A n c))).alloc 24 zeroM
  rw [World.size_alloc] at hs
  obtain ⟨b, hb⟩ : ∃ b, b = w.heap.size := ⟨_, rfl⟩
  rw [← hb] at hs
  clear hst
  go_enter Tryd.func15, Tryd.ntmps15
  go_upto_region 1 with fail
  rw [← hb]
  clear hb
  change St I _ (World.alloc _ (.cells #[.string ⟨#[]⟩, .slice none 0 0, .string ⟨#[]⟩] 24)) at hs
  generalize World.alloc _ _ = W at hs ⊢
  obtain ⟨y0, y1, y2, -⟩ := Blk.three (show Blk W b 30 #[.string m.verb, .slice A n c, .string m.body] from hs.at 1 rfl)
  obtain ⟨z0, z1, z2, f0, f1, f2, -⟩ := Blk.three (show Blk W (b + 1) 24 #[.string ⟨#[]⟩, .slice none 0 0, .string ⟨#[]⟩] from hs.at 0 rfl)
  have HS := Lib.hid (show St I (bk (b + 1) 24 (msgC m (.slice A n c)) :: _) _ from ((hs.set 0 (.string m.verb)).set 1 (.slice A n c)).set 2 (.string m.body))
  clear hs
  go_wp2
  refine bodyPost_ret (results_cell_row (p := 2) (ty := 24) rfl _ _ (b + 1) 24 (msgC m (.slice A n c)) (0, 0) _ rfl HS.out.head Tryd.underlying24 rfl size24) rfl ?_
  exact Ret.mk (.refl I) HS.out.drop.drop ⟨rfl, rfl, rfl⟩
set_option maxRecDepth 8000 in
set_option maxHeartbeats 1000000 in
theorem theirsP (I : Img) (M : List Res) (w : World) (A : Option Addr) (c : Nat) (m : Msg) (hst : St I M w) (hA : Cells I A (strs m.args)) (hl : m.args.length * 16 ≤ 140737488351232) :
    Calls Tryd.prog 11 #[.agg (msgC m (.slice A m.args.length c))] w (Ret I (fun v J M' => M' = M ∧ ∃ A' c', v = .agg (msgC m (.slice A' m.args.length c')) ∧ Cells J A' (strs m.args))) := by
  have hs := (hst.alloc 24 (msgC m (.slice A m.args.length c))).alloc 30 zeroM
  rw [World.size_alloc] at hs
  obtain ⟨b, hb⟩ : ∃ b, b = w.heap.size := ⟨_, rfl⟩
  rw [← hb] at hs
  have HA := Lib.hid hA
  obtain ⟨i9, hi9, hq0, hq1, hq2⟩ := info_parts info9
  clear hst hA
  go_enter Tryd.func11, Tryd.ntmps11
  go_upto_region 1 with fail
  rw [← hb]
  clear hb
  change St I _ (World.alloc _ (.cells #[.string ⟨#[]⟩, .slice none 0 0, .string ⟨#[]⟩] 30)) at hs
  generalize World.alloc _ _ = W at hs ⊢
  have hs0 := hs.drew
  clear hs
  have hk : ∀ (N : List Res) (w : World), St I N w → ∀ k, N[k]? = some (bk b 24 (msgC m (.slice A m.args.length c))) → w.cell? ⟨b, 0, none⟩ = some (.string m.verb) ∧ w.cell? ⟨b, 1, none⟩ = some (.slice A m.args.length c) ∧ w.cell? ⟨b, 2, none⟩ = some (.string m.body) := fun N w h k hk => by
    have hB : Blk w b 24 (msgC m (.slice A m.args.length c)) := h.at k hk
    exact ⟨hB.cell 0, hB.cell 1, hB.cell 2⟩
  have HK := Lib.hid hk
  clear hk
  refine wp_region_held_drew (S := (fun w' => w'.cell? ⟨b, 0, none⟩ = some (.string m.verb) ∧ w'.cell? ⟨b, 1, none⟩ = some (.slice A m.args.length c) ∧ w'.cell? ⟨b, 2, none⟩ = some (.string m.body))) (by kernel_rfl) (by (try dsimp only); first | exact HK.out _ _ hs0 1 rfl | exact HK.out _ _ hs1 2 rfl | exact HK.out _ _ hs2 2 rfl | exact HK.out _ _ hs3 2 rfl) (fun hHeld => ?_)
  generalize World.drew _ = W4 at hs0 hHeld ⊢
  refine wpAnyH_take (i := 0) (oi := _) (v := ?_) rfl (by kernel_rfl) (by kernel_rfl) (by kernel_rfl) (fun _ _ _ h => h) (Or.inl ⟨by rfl, ?_⟩) (by assumption) ?_
  rotate_left
  · (intro w hSw; (try dsimp only at hSw); go_simp; try with_reducible rfl)
  try simp only [Act.put, List.getElem_toArray, List.getElem_cons_zero, List.getElem_cons_succ, List.setIfInBounds_toArray, List.set_cons_zero, List.set_cons_succ]
  refine wpAnyH_take (i := 1) (oi := _) (v := ?_) rfl (by kernel_rfl) (by kernel_rfl) (by kernel_rfl) (fun _ _ _ h => h) (Or.inl ⟨by rfl, ?_⟩) (by assumption) ?_
  rotate_left
  · (intro w hSw; (try dsimp only at hSw); go_simp; try with_reducible rfl)
  try simp only [Act.put, List.getElem_toArray, List.getElem_cons_zero, List.getElem_cons_succ, List.setIfInBounds_toArray, List.set_cons_zero, List.set_cons_succ]
  refine wpAnyH_take (i := 3) (oi := _) (v := ?_) rfl (by kernel_rfl) (by kernel_rfl) (by kernel_rfl) (fun _ _ _ h => h) (Or.inl ⟨by rfl, ?_⟩) (by assumption) ?_
  rotate_left
  · (intro w hSw; (try dsimp only at hSw); go_simp; try with_reducible rfl)
  try simp only [Act.put, List.getElem_toArray, List.getElem_cons_zero, List.getElem_cons_succ, List.setIfInBounds_toArray, List.set_cons_zero, List.set_cons_succ]
  refine wpAnyH_take (i := 4) (oi := _) (v := ?_) rfl (by kernel_rfl) (by kernel_rfl) (by kernel_rfl) (fun _ _ _ h => h) (Or.inl ⟨by rfl, ?_⟩) (by assumption) ?_
  rotate_left
  · (intro w hSw; (try dsimp only at hSw); go_simp; try with_reducible rfl)
  try simp only [Act.put, List.getElem_toArray, List.getElem_cons_zero, List.getElem_cons_succ, List.setIfInBounds_toArray, List.set_cons_zero, List.set_cons_succ]
  refine wpAnyH_take (i := 6) (oi := _) (v := ?_) rfl (by kernel_rfl) (by kernel_rfl) (by kernel_rfl) (fun _ _ _ h => h) (Or.inl ⟨by rfl, ?_⟩) (by assumption) ?_
  rotate_left
  · (intro w hSw; (try dsimp only at hSw); go_simp; try with_reducible rfl)
  try simp only [Act.put, List.getElem_toArray, List.getElem_cons_zero, List.getElem_cons_succ, List.setIfInBounds_toArray, List.set_cons_zero, List.set_cons_succ]
  refine wpAnyH_take (i := 7) (oi := _) (v := ?_) rfl (by kernel_rfl) (by kernel_rfl) (by kernel_rfl) (fun _ _ _ h => h) (Or.inl ⟨by rfl, ?_⟩) (by assumption) ?_
  rotate_left
  · (intro w hSw; (try dsimp only at hSw); go_simp; try with_reducible rfl)
  try simp only [Act.put, List.getElem_toArray, List.getElem_cons_zero, List.getElem_cons_succ, List.setIfInBounds_toArray, List.set_cons_zero, List.set_cons_succ]
  refine wpAnyH_ready (rs := [2]) (by kernel_rfl) (by simp) ?_
  refine (AllReadyH.cons (o := _) rfl (fun K hK => ?_) AllReadyH.nil)
  go_simp
  have hs1 := St.fresh hs0 (hs0.grow (.cells #[] 9)) (World.ownsRow_lit (base := W4.heap.size) (e := 9) (size := 1) W4 #[] 0 (Nat.le_refl _) (by decide) rfl)
  have hsrc := Cells.src (P := Tryd.prog) (t := 22) (e := 9) (size := 1) HA.out (hs0.grow (.cells #[] 9)) (by rw [strs_len, Nat.mul_one]) (by omega) Tryd.underlying22 c (strs_one m.args)
  clear hs0
  try clear hHeld
  refine hK.out _ _ (by (try dsimp only); first | exact HK.out _ _ hs0 1 rfl | exact HK.out _ _ hs1 2 rfl | exact HK.out _ _ hs2 2 rfl | exact HK.out _ _ hs3 2 rfl) (fun hHeld => ?_)
  clear hK K
  try simp only [Act.put, List.getElem_toArray, List.getElem_cons_zero, List.getElem_cons_succ, List.setIfInBounds_toArray, List.set_cons_zero, List.set_cons_succ]
  generalize World.alloc W4 _ = W5 at hs1 hsrc hHeld ⊢
  refine wpAnyH_ready (rs := [5]) (by kernel_rfl) (by simp) ?_
  refine (AllReadyH.cons (o := _) rfl (fun K hK => ?_) AllReadyH.nil)
  refine step_append_src _ rfl (.tmp 5) (.tmp 7) 22 22 rfl 0 9 i9 (.string ⟨#[]⟩) 1 16 Tryd.underlying22 hi9 hq0 hq1 hq2 rfl _ 0 [] rfl hs1.head _ m.args.length (strs m.args) rfl hsrc (by unfold maxLen; omega) (by omega) (Nat.zero_le _) ?_
  intro v' w' hown hgrow hat
  rw [Nat.zero_add, List.nil_append] at hown
  obtain ⟨A', c', rfl⟩ := own_form hown
  have hs2 := hs1.grown hgrow hown hat
  clear hs1 hsrc hown hgrow hat
  try clear hHeld
  refine hK.out _ _ (by (try dsimp only); first | exact HK.out _ _ hs0 1 rfl | exact HK.out _ _ hs1 2 rfl | exact HK.out _ _ hs2 2 rfl | exact HK.out _ _ hs3 2 rfl) (fun hHeld => ?_)
  clear hK K
  try simp only [Act.put, List.getElem_toArray, List.getElem_cons_zero, List.getElem_cons_succ, List.setIfInBounds_toArray, List.set_cons_zero, List.set_cons_succ]
  refine wpAnyH_take (i := 8) (oi := _) (v := ?_) rfl (by kernel_rfl) (by kernel_rfl) (by kernel_rfl) (fun _ _ _ h => h) (Or.inl ⟨by rfl, ?_⟩) (by assumption) ?_
  rotate_left
  · (intro w hSw; (try dsimp only at hSw); go_simp; try with_reducible rfl)
  try simp only [Act.put, List.getElem_toArray, List.getElem_cons_zero, List.getElem_cons_succ, List.setIfInBounds_toArray, List.set_cons_zero, List.set_cons_succ]
  refine wpAnyH_ready (rs := [9]) (by kernel_rfl) (by simp) ?_
  refine (AllReadyH.cons (o := _) rfl (fun K hK => ?_) AllReadyH.nil)
  have hg : w'.heap[b + 1]? = some (.cells #[.string ⟨#[]⟩, .slice none 0 0, .string ⟨#[]⟩] 30 (0, 0)) := hs2.at 1 rfl
  refine step_store_row rfl 30 (.tmp 2) (.tmp 11) rfl (b + 1) #[.string m.verb, .slice A' m.args.length c', .string m.body] rfl rfl 30 _ hg size30 rfl (by simp [Value.oneCell']) ?_
  have hs3 := hs2.setR1 #[.string m.verb, .slice A' m.args.length c', .string m.body]
  clear hs2 hg
  try clear hHeld
  refine hK.out _ _ (by (try dsimp only); first | exact HK.out _ _ hs0 1 rfl | exact HK.out _ _ hs1 2 rfl | exact HK.out _ _ hs2 2 rfl | exact HK.out _ _ hs3 2 rfl) (fun hHeld => ?_)
  clear hK K
  try simp only [Act.put, List.getElem_toArray, List.getElem_cons_zero, List.getElem_cons_succ, List.setIfInBounds_toArray, List.set_cons_zero, List.set_cons_succ]
  refine wpAnyH_done (by kernel_rfl) ?_ _
  clear hHeld
  obtain ⟨J, hJ, hs4, hc4⟩ := hs3.freezeRow
  have HS := Lib.hid hs4
  have HC4 := Lib.hid hc4
  have HJ := Lib.hid hJ
  clear hs3 hs4 hc4 hJ
  go_wp2
  refine bodyPost_ret (results_cell_row (p := 2) (ty := 30) rfl _ _ (b + 1) 30 (msgC m (.slice A' m.args.length c')) (0, 0) _ rfl HS.out.head Tryd.underlying30 rfl size30) rfl ?_
  exact Ret.mk HJ.out HS.out.drop.drop ⟨rfl, A', c', rfl, HC4.out⟩
end Go.Proofs.YthmamheegkppdaaDoor
