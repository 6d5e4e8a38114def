/- rostrumref23.House.Unpublish. -/
import Derived.Test.YtbaobonlolbnpaaRpE
namespace Go.Proofs.Ytbaobonlolbnpaa
open Go.RowKit
set_option linter.unusedSimpArgs false

theorem trk_one : ∀ x : Trk, ∀ u ∈ trkC x, u.oneCell' = true := fun x u hu => by simp at hu; rcases hu with rfl | rfl | rfl | rfl <;> rfl
theorem mem_one : ∀ x : Mem, ∀ u ∈ memC x, u.oneCell' = true := fun x u hu => by simp at hu; rcases hu with rfl | rfl | rfl | rfl | rfl <;> rfl
set_option maxRecDepth 8000 in
set_option maxHeartbeats 8000000 in
theorem unpublishR (I : Img) (M : List Res) (w : World) (p : Nat) (h : Ho) (vM vT vS : Value) (id : Int) (hst : St I (houR p h vM vT vS M) w) (hlt : h.ts.length ≤ 1000000) (hls : h.ss.length ≤ 1000000) (hun : (h.ts.filter (fun t => t.id == id)).length ≤ 1) :
    Calls Try.prog 31 #[.pointer (some ⟨p, 0, none⟩), .int .i64 id] w (Ret I (fun v J M' => I = J ∧ HR p M (unpubS h id) v M')) := by
  obtain ⟨A, c, rfl⟩ := own_form (show World.ownsRow _ 0 87 4 vT _ _ from hst.at 1 rfl)
  obtain ⟨B, cb, rfl⟩ := own_form (show World.ownsRow _ 0 88 3 vS _ _ from hst.at 2 rfl)
  obtain ⟨hcP, hfP, hlP⟩ := Blk.all (hst.at 3 rfl)
  have ht := trkR I M w p h _ _ _ id hst hlt
  have HS := Lib.hid hst
  clear hst
  go_enter Try.func31, Try.ntmps31
  rcases idx_ways (fun x : Trk => x.id == id) h.ts with ⟨e, hno⟩ | ⟨i, hii, e, hpi, hno⟩
  · rw [e] at ht
    have HE := Lib.hid (show unpubS h id = (h, 7) by unfold unpubS trk?; rw [if_pos (List.find?_eq_none.2 (fun x hx => by rw [hno x hx]; simp))])
    clear e hno
    go_wp2_with (go_at_call 52; refine ht.mono ?_; clear ht; rintro e w2 ⟨rfl, hw2⟩; subst w2)
    go_returns
    refine Ret.mk (.refl I) HS.out ⟨rfl, ⟨by rw [HE.out]; rfl, _, _, _, by rw [HE.out]⟩⟩
  rw [e] at ht
  have hcut := cut_out (p := fun x : Trk => x.id == id) h.ts i hii hpi hno hun
  have hE : unpubS h id = ({ h with ts := h.ts.take i ++ h.ts.drop (i + 1), ss := h.ss.filter (fun s => !(s.track == id)) }, 0) := by
    unfold unpubS
    rw [if_neg (by unfold trk?; intro hf; have := List.find?_eq_none.1 hf _ (List.getElem_mem hii); exact this hpi), hcut]
  have HE := Lib.hid hE
  obtain ⟨g, rfl, _, hcc, hg, _, _⟩ := flat_cell (f := trkC) (s := 4) (fun _ => rfl) HS.out.swap1 (by omega) (by decide)
  clear e hpi hno hcut hE hg
  go_upto_region 4 with (go_at_call 52; refine ht.mono ?_; clear ht; rintro e w2 ⟨rfl, hw2⟩; subst w2)
  go_cut [13] (fun v wx => Hid (∃ A' c', St I (houR p { h with ts := h.ts.take i ++ h.ts.drop (i + 1) } vM (.slice A' (h.ts.take i ++ h.ts.drop (i + 1)).length c') (.slice B h.ss.length cb) M) wx))
  case first =>
    have hs := HS.out.drew
    clear HS hcP hfP hlP
    obtain ⟨i3, hi, hz0, hz1, hz2⟩ := info_parts info87
    obtain ⟨A2, hA2⟩ : ∃ A2 : Addr, A2 = if c = i + 1 then ⟨g, 0, none⟩ else ⟨g, (i + 1) * 4, none⟩ := ⟨_, rfl⟩
    have HA2 := Lib.hid (show (if c = i + 1 then some (⟨g, 0, none⟩ : Addr) else some ⟨g, (i + 1) * 4, none⟩) = some A2 by rw [hA2]; split <;> rfl)
    have HA3 := Lib.hid hA2
    have HW := Lib.hid (show IntKind.i64.wrap ((i : Int) + 1) = ((i + 1 : Nat) : Int) by rw [IntKind.wrap_i64]; omega)
    clear hA2
    refine wp_region_held_drew (S := (fun _ => True)) (by kernel_rfl) (by (try dsimp only); all_goals trivial) (fun hHeld => ?_)
    generalize World.drew _ = W at hs hHeld ⊢
    refine wpAnyH_take (i := 0) (oi := _) (v := ?_) rfl (by kernel_rfl) (by kernel_rfl) (by kernel_rfl) (fun _ _ _ h => h) (Or.inl ⟨by rfl, ?_⟩) (by assumption) ?_
    rotate_left
    · (intro w hSw; (try dsimp only at hSw); go_simp; try with_reducible rfl)
    try simp only [Act.put, List.getElem_toArray, List.getElem_cons_zero, List.getElem_cons_succ, List.setIfInBounds_toArray, List.set_cons_zero, List.set_cons_succ]
    refine wpAnyH_take (i := 2) (oi := _) (v := ?_) rfl (by kernel_rfl) (by kernel_rfl) (by kernel_rfl) (fun _ _ _ h => h) (Or.inl ⟨by rfl, ?_⟩) (by assumption) ?_
    rotate_left
    · (intro w hSw; (try dsimp only at hSw); go_simp; try with_reducible rfl)
    try simp only [Act.put, List.getElem_toArray, List.getElem_cons_zero, List.getElem_cons_succ, List.setIfInBounds_toArray, List.set_cons_zero, List.set_cons_succ]
    refine wpAnyH_take (i := 3) (oi := _) (v := ?_) rfl (by kernel_rfl) (by kernel_rfl) (by kernel_rfl) (fun _ _ _ h => h) (Or.inl ⟨by rfl, ?_⟩) (by assumption) ?_
    rotate_left
    · (intro w hSw; (try dsimp only at hSw); go_simp; try with_reducible rfl)
    try simp only [Act.put, List.getElem_toArray, List.getElem_cons_zero, List.getElem_cons_succ, List.setIfInBounds_toArray, List.set_cons_zero, List.set_cons_succ]
    refine wpAnyH_take (i := 4) (oi := _) (v := ?_) rfl (by kernel_rfl) (by kernel_rfl) (by kernel_rfl) (fun _ _ _ h => h) (Or.inl ⟨by rfl, ?_⟩) (by assumption) ?_
    rotate_left
    · (intro w hSw; (try dsimp only at hSw); go_simp; try with_reducible rfl)
    try simp only [Act.put, List.getElem_toArray, List.getElem_cons_zero, List.getElem_cons_succ, List.setIfInBounds_toArray, List.set_cons_zero, List.set_cons_succ]
    refine wpAnyH_take (i := 6) (oi := _) (v := ?_) rfl (by kernel_rfl) (by kernel_rfl) (by kernel_rfl) (fun _ _ _ h => h) (Or.inl ⟨by rfl, ?_⟩) (by assumption) ?_
    rotate_left
    · (intro w hSw; (try dsimp only at hSw); go_simp; try with_reducible rfl)
    try simp only [Act.put, List.getElem_toArray, List.getElem_cons_zero, List.getElem_cons_succ, List.setIfInBounds_toArray, List.set_cons_zero, List.set_cons_succ]
    refine wpAnyH_take (i := 9) (oi := _) (v := ?_) rfl (by kernel_rfl) (by kernel_rfl) (by kernel_rfl) (fun _ _ _ h => h) (Or.inl ⟨by rfl, ?_⟩) (by assumption) ?_
    rotate_left
    · (intro w hSw; (try dsimp only at hSw); go_simp; try with_reducible rfl)
    try simp only [Act.put, List.getElem_toArray, List.getElem_cons_zero, List.getElem_cons_succ, List.setIfInBounds_toArray, List.set_cons_zero, List.set_cons_succ]
    refine wpAnyH_take (i := 10) (oi := _) (v := ?_) rfl (by kernel_rfl) (by kernel_rfl) (by kernel_rfl) (fun _ _ _ h => h) (Or.inl ⟨by rfl, ?_⟩) (by assumption) ?_
    rotate_left
    · (intro w hSw; (try dsimp only at hSw); go_simp; try with_reducible rfl)
    try simp only [Act.put, List.getElem_toArray, List.getElem_cons_zero, List.getElem_cons_succ, List.setIfInBounds_toArray, List.set_cons_zero, List.set_cons_succ]
    refine wpAnyH_take (i := 11) (oi := _) (v := ?_) rfl (by kernel_rfl) (by kernel_rfl) (by kernel_rfl) (fun _ _ _ h => h) (Or.inl ⟨by rfl, ?_⟩) (by assumption) ?_
    rotate_left
    · (intro w hSw; (try dsimp only at hSw); go_simp; try with_reducible rfl)
    try simp only [Act.put, List.getElem_toArray, List.getElem_cons_zero, List.getElem_cons_succ, List.setIfInBounds_toArray, List.set_cons_zero, List.set_cons_succ]
    refine wpAnyH_take (i := 13) (oi := _) (v := ?_) rfl (by kernel_rfl) (by kernel_rfl) (by kernel_rfl) (fun _ _ _ h => h) (Or.inl ⟨by rfl, ?_⟩) (by assumption) ?_
    rotate_left
    · (intro w hSw; (try dsimp only at hSw); go_simp; try with_reducible rfl)
    try simp only [Act.put, List.getElem_toArray, List.getElem_cons_zero, List.getElem_cons_succ, List.setIfInBounds_toArray, List.set_cons_zero, List.set_cons_succ]
    refine wpAnyH_take (i := 14) (oi := _) (v := ?_) rfl (by kernel_rfl) (by kernel_rfl) (by kernel_rfl) (fun _ _ _ h => h) (Or.inl ⟨by rfl, ?_⟩) (by assumption) ?_
    rotate_left
    · (intro w hSw; (try dsimp only at hSw); go_simp; try with_reducible rfl)
    try simp only [Act.put, List.getElem_toArray, List.getElem_cons_zero, List.getElem_cons_succ, List.setIfInBounds_toArray, List.set_cons_zero, List.set_cons_succ]
    refine wpAnyH_ready (rs := [1, 5, 12]) (by kernel_rfl) (by simp) ?_
    refine (AllReadyH.cons (o := _) rfl (fun K hK => ?_) (AllReadyH.cons (o := _) rfl (fun K hK => ?_) (AllReadyH.cons (o := _) rfl (fun K hK => ?_) AllReadyH.nil)))
    · skip
      go_simp
      try clear hHeld
      refine hK.out _ _ (by (try dsimp only); all_goals trivial) (fun hHeld => ?_)
      clear hK K
      try simp only [Act.put, List.getElem_toArray, List.getElem_cons_zero, List.getElem_cons_succ, List.setIfInBounds_toArray, List.set_cons_zero, List.set_cons_succ]
      generalize hw : World.alloc W _ = W at hHeld ⊢
      replace hs := hs.lit0S (s := 4) hw
      clear hw
      refine wpAnyH_ready (rs := [5, 12]) (by kernel_rfl) (by simp) ?_
      refine (AllReadyH.cons (o := _) rfl (fun K hK => ?_) (AllReadyH.cons (o := _) rfl (fun K hK => ?_) AllReadyH.nil))
      · skip
        have hcQ : W.cell? ⟨p, 1, none⟩ = some (.slice (some ⟨g, 0, none⟩) h.ts.length c) := by first | exact Blk.cell (hs.at 3 rfl) 1 | exact Blk.cell (hs.at 4 rfl) 1
        go_simp
        try clear hHeld
        refine hK.out _ _ (by (try dsimp only); all_goals trivial) (fun hHeld => ?_)
        clear hK K
        try simp only [Act.put, List.getElem_toArray, List.getElem_cons_zero, List.getElem_cons_succ, List.setIfInBounds_toArray, List.set_cons_zero, List.set_cons_succ]
        clear hcQ
        refine wpAnyH_take (i := 7) (oi := _) (v := ?_) rfl (by kernel_rfl) (by kernel_rfl) (by kernel_rfl) (fun _ _ _ h => h) (Or.inl ⟨by rfl, ?_⟩) (by assumption) ?_
        rotate_left
        · (intro w hSw; (try dsimp only at hSw); go_simp; rw [if_pos (by omega)])
        try simp only [Act.put, List.getElem_toArray, List.getElem_cons_zero, List.getElem_cons_succ, List.setIfInBounds_toArray, List.set_cons_zero, List.set_cons_succ]
        refine wpAnyH_ready (rs := [8, 12]) (by kernel_rfl) (by simp) ?_
        refine (AllReadyH.cons (o := _) rfl (fun K hK => ?_) (AllReadyH.cons (o := _) rfl (fun K hK => ?_) AllReadyH.nil))
        · skip
          refine step_append_src _ (by rfl) _ _ 69 69 (by rfl) 0 87 i3 (.agg #[.int .i64 0, .int .i64 0, .string ⟨#[]⟩, .int .i64 0]) 4 40 Try.underlying69 hi hz0 hz1 hz2 rfl _ 0 [] (by rfl) hs.head _ i _ (by rfl) (own_src (f := trkC) (fun _ => rfl) trk_one (hs.at 2 rfl) Try.underlying69 0 i _ (by omega) (by omega)) (by unfold maxLen; omega) (by omega) (Nat.zero_le _) ?_
          intro v' W hown' hgrow hat
          have hown2 : W.ownsRow 0 87 4 v' i (flat trkC (h.ts.take i)) := by simpa using hown'
          obtain ⟨A10, c10, rfl⟩ := own_form hown2
          replace hs := hs.grown hgrow hown2 hat
          clear hown' hown2 hgrow hat
          try clear hHeld
          refine hK.out _ _ (by (try dsimp only); all_goals trivial) (fun hHeld => ?_)
          clear hK K
          try simp only [Act.put, List.getElem_toArray, List.getElem_cons_zero, List.getElem_cons_succ, List.setIfInBounds_toArray, List.set_cons_zero, List.set_cons_succ]
          refine wpAnyH_ready (rs := [12]) (by kernel_rfl) (by simp) ?_
          refine (AllReadyH.cons (o := _) rfl (fun K hK => ?_) AllReadyH.nil)
          have hcQ : W.cell? ⟨p, 1, none⟩ = some (.slice (some ⟨g, 0, none⟩) h.ts.length c) := by first | exact Blk.cell (hs.at 3 rfl) 1 | exact Blk.cell (hs.at 4 rfl) 1
          go_simp
          try clear hHeld
          refine hK.out _ _ (by (try dsimp only); all_goals trivial) (fun hHeld => ?_)
          clear hK K
          try simp only [Act.put, List.getElem_toArray, List.getElem_cons_zero, List.getElem_cons_succ, List.setIfInBounds_toArray, List.set_cons_zero, List.set_cons_succ]
          clear hcQ
          refine wpAnyH_take (i := 15) (oi := _) (v := ?_) rfl (by kernel_rfl) (by kernel_rfl) (by kernel_rfl) (fun _ _ _ h => h) (Or.inl ⟨by rfl, ?_⟩) (by assumption) ?_
          rotate_left
          · (intro w hSw; (try dsimp only at hSw); go_simp; rw [HW.out, if_pos ⟨by omega, by omega⟩, Int.toNat_natCast, HA2.out])
          try simp only [Act.put, List.getElem_toArray, List.getElem_cons_zero, List.getElem_cons_succ, List.setIfInBounds_toArray, List.set_cons_zero, List.set_cons_succ]
          refine wpAnyH_ready (rs := [16]) (by kernel_rfl) (by simp) ?_
          refine (AllReadyH.cons (o := _) rfl (fun K hK => ?_) AllReadyH.nil)
          refine step_append_src _ (by rfl) _ _ 69 69 (by rfl) 0 87 i3 (.agg #[.int .i64 0, .int .i64 0, .string ⟨#[]⟩, .int .i64 0]) 4 40 Try.underlying69 hi hz0 hz1 hz2 rfl _ i (flat trkC (h.ts.take i)) (by rfl) hs.head _ (h.ts.length - (i + 1)) _ (by rfl) (own_src2 (f := trkC) (fun _ => rfl) trk_one (hs.at 2 rfl) Try.underlying69 (i + 1) _ (by omega) HA3.out) (by unfold maxLen; omega) (by omega) (Nat.zero_le _) ?_
          intro v' W hown' hgrow hat
          have hown2 : W.ownsRow 0 87 4 v' (h.ts.take i ++ h.ts.drop (i + 1)).length (flat trkC (h.ts.take i ++ h.ts.drop (i + 1))) := by rw [flat_append]; rw [show (h.ts.take i ++ h.ts.drop (i + 1)).length = i + (h.ts.length - (i + 1)) by rw [List.length_append, List.length_take, List.length_drop]; omega]; exact hown'
          obtain ⟨A11, c11, rfl⟩ := own_form hown2
          obtain ⟨n11, hn11⟩ : ∃ n11, n11 = (h.ts.take i ++ h.ts.drop (i + 1)).length := ⟨_, rfl⟩
          replace hs := hs.grown hgrow hown2 hat
          rw [← hn11] at hs ⊢
          have HN11 := Lib.hid hn11
          clear hown' hown2 hgrow hat hn11
          try clear hHeld
          refine hK.out _ _ (by (try dsimp only); all_goals trivial) (fun hHeld => ?_)
          clear hK K
          try simp only [Act.put, List.getElem_toArray, List.getElem_cons_zero, List.getElem_cons_succ, List.setIfInBounds_toArray, List.set_cons_zero, List.set_cons_succ]
          refine wpAnyH_take (i := 17) (oi := _) (v := ?_) rfl (by kernel_rfl) (by kernel_rfl) (by kernel_rfl) (fun _ _ _ h => h) (Or.inl ⟨by rfl, ?_⟩) (by assumption) ?_
          rotate_left
          · (intro w hSw; (try dsimp only at hSw); go_simp; try with_reducible rfl)
          try simp only [Act.put, List.getElem_toArray, List.getElem_cons_zero, List.getElem_cons_succ, List.setIfInBounds_toArray, List.set_cons_zero, List.set_cons_succ]
          refine wpAnyH_take (i := 18) (oi := _) (v := ?_) rfl (by kernel_rfl) (by kernel_rfl) (by kernel_rfl) (fun _ _ _ h => h) (Or.inl ⟨by rfl, ?_⟩) (by assumption) ?_
          rotate_left
          · (intro w hSw; (try dsimp only at hSw); go_simp; try with_reducible rfl)
          try simp only [Act.put, List.getElem_toArray, List.getElem_cons_zero, List.getElem_cons_succ, List.setIfInBounds_toArray, List.set_cons_zero, List.set_cons_succ]
          refine wpAnyH_ready (rs := [19]) (by kernel_rfl) (by simp) ?_
          refine (AllReadyH.cons (o := _) rfl (fun K hK => ?_) AllReadyH.nil)
          obtain ⟨hcQ, hfQ, hlQ⟩ := Blk.all (show Blk W p 71 _ from hs.at 4 rfl)
          go_simp
          replace hs := hs.set4 1 (.slice A11 n11 c11)
          try clear hHeld
          refine hK.out _ _ (by (try dsimp only); all_goals trivial) (fun hHeld => ?_)
          clear hK K
          try simp only [Act.put, List.getElem_toArray, List.getElem_cons_zero, List.getElem_cons_succ, List.setIfInBounds_toArray, List.set_cons_zero, List.set_cons_succ]
          clear hcQ hfQ hlQ
          refine wpAnyH_done (by kernel_rfl) ?_ _
          generalize World.setCell _ _ _ = W at hs ⊢
          replace hs := hs.swap2.drop
          have HS := Lib.hid hs
          clear hs
          go_wp2
          go_meet
          refine Lib.hid ⟨A11, c11, ?_⟩
          rw [← HN11.out]
          exact (by unfold houR; dsimp only; rw [← HN11.out]; exact HS.out)
        · skip
          have hcQ : W.cell? ⟨p, 1, none⟩ = some (.slice (some ⟨g, 0, none⟩) h.ts.length c) := by first | exact Blk.cell (hs.at 3 rfl) 1 | exact Blk.cell (hs.at 4 rfl) 1
          go_simp
          try clear hHeld
          refine hK.out _ _ (by (try dsimp only); all_goals trivial) (fun hHeld => ?_)
          clear hK K
          try simp only [Act.put, List.getElem_toArray, List.getElem_cons_zero, List.getElem_cons_succ, List.setIfInBounds_toArray, List.set_cons_zero, List.set_cons_succ]
          clear hcQ
          refine wpAnyH_take (i := 15) (oi := _) (v := ?_) rfl (by kernel_rfl) (by kernel_rfl) (by kernel_rfl) (fun _ _ _ h => h) (Or.inl ⟨by rfl, ?_⟩) (by assumption) ?_
          rotate_left
          · (intro w hSw; (try dsimp only at hSw); go_simp; rw [HW.out, if_pos ⟨by omega, by omega⟩, Int.toNat_natCast, HA2.out])
          try simp only [Act.put, List.getElem_toArray, List.getElem_cons_zero, List.getElem_cons_succ, List.setIfInBounds_toArray, List.set_cons_zero, List.set_cons_succ]
          refine wpAnyH_ready (rs := [8]) (by kernel_rfl) (by simp) ?_
          refine (AllReadyH.cons (o := _) rfl (fun K hK => ?_) AllReadyH.nil)
          refine step_append_src _ (by rfl) _ _ 69 69 (by rfl) 0 87 i3 (.agg #[.int .i64 0, .int .i64 0, .string ⟨#[]⟩, .int .i64 0]) 4 40 Try.underlying69 hi hz0 hz1 hz2 rfl _ 0 [] (by rfl) hs.head _ i _ (by rfl) (own_src (f := trkC) (fun _ => rfl) trk_one (hs.at 2 rfl) Try.underlying69 0 i _ (by omega) (by omega)) (by unfold maxLen; omega) (by omega) (Nat.zero_le _) ?_
          intro v' W hown' hgrow hat
          have hown2 : W.ownsRow 0 87 4 v' i (flat trkC (h.ts.take i)) := by simpa using hown'
          obtain ⟨A10, c10, rfl⟩ := own_form hown2
          replace hs := hs.grown hgrow hown2 hat
          clear hown' hown2 hgrow hat
          try clear hHeld
          refine hK.out _ _ (by (try dsimp only); all_goals trivial) (fun hHeld => ?_)
          clear hK K
          try simp only [Act.put, List.getElem_toArray, List.getElem_cons_zero, List.getElem_cons_succ, List.setIfInBounds_toArray, List.set_cons_zero, List.set_cons_succ]
          refine wpAnyH_ready (rs := [16]) (by kernel_rfl) (by simp) ?_
          refine (AllReadyH.cons (o := _) rfl (fun K hK => ?_) AllReadyH.nil)
          refine step_append_src _ (by rfl) _ _ 69 69 (by rfl) 0 87 i3 (.agg #[.int .i64 0, .int .i64 0, .string ⟨#[]⟩, .int .i64 0]) 4 40 Try.underlying69 hi hz0 hz1 hz2 rfl _ i (flat trkC (h.ts.take i)) (by rfl) hs.head _ (h.ts.length - (i + 1)) _ (by rfl) (own_src2 (f := trkC) (fun _ => rfl) trk_one (hs.at 2 rfl) Try.underlying69 (i + 1) _ (by omega) HA3.out) (by unfold maxLen; omega) (by omega) (Nat.zero_le _) ?_
          intro v' W hown' hgrow hat
          have hown2 : W.ownsRow 0 87 4 v' (h.ts.take i ++ h.ts.drop (i + 1)).length (flat trkC (h.ts.take i ++ h.ts.drop (i + 1))) := by rw [flat_append]; rw [show (h.ts.take i ++ h.ts.drop (i + 1)).length = i + (h.ts.length - (i + 1)) by rw [List.length_append, List.length_take, List.length_drop]; omega]; exact hown'
          obtain ⟨A11, c11, rfl⟩ := own_form hown2
          obtain ⟨n11, hn11⟩ : ∃ n11, n11 = (h.ts.take i ++ h.ts.drop (i + 1)).length := ⟨_, rfl⟩
          replace hs := hs.grown hgrow hown2 hat
          rw [← hn11] at hs ⊢
          have HN11 := Lib.hid hn11
          clear hown' hown2 hgrow hat hn11
          try clear hHeld
          refine hK.out _ _ (by (try dsimp only); all_goals trivial) (fun hHeld => ?_)
          clear hK K
          try simp only [Act.put, List.getElem_toArray, List.getElem_cons_zero, List.getElem_cons_succ, List.setIfInBounds_toArray, List.set_cons_zero, List.set_cons_succ]
          refine wpAnyH_take (i := 17) (oi := _) (v := ?_) rfl (by kernel_rfl) (by kernel_rfl) (by kernel_rfl) (fun _ _ _ h => h) (Or.inl ⟨by rfl, ?_⟩) (by assumption) ?_
          rotate_left
          · (intro w hSw; (try dsimp only at hSw); go_simp; try with_reducible rfl)
          try simp only [Act.put, List.getElem_toArray, List.getElem_cons_zero, List.getElem_cons_succ, List.setIfInBounds_toArray, List.set_cons_zero, List.set_cons_succ]
          refine wpAnyH_take (i := 18) (oi := _) (v := ?_) rfl (by kernel_rfl) (by kernel_rfl) (by kernel_rfl) (fun _ _ _ h => h) (Or.inl ⟨by rfl, ?_⟩) (by assumption) ?_
          rotate_left
          · (intro w hSw; (try dsimp only at hSw); go_simp; try with_reducible rfl)
          try simp only [Act.put, List.getElem_toArray, List.getElem_cons_zero, List.getElem_cons_succ, List.setIfInBounds_toArray, List.set_cons_zero, List.set_cons_succ]
          refine wpAnyH_ready (rs := [19]) (by kernel_rfl) (by simp) ?_
          refine (AllReadyH.cons (o := _) rfl (fun K hK => ?_) AllReadyH.nil)
          obtain ⟨hcQ, hfQ, hlQ⟩ := Blk.all (show Blk W p 71 _ from hs.at 4 rfl)
          go_simp
          replace hs := hs.set4 1 (.slice A11 n11 c11)
          try clear hHeld
          refine hK.out _ _ (by (try dsimp only); all_goals trivial) (fun hHeld => ?_)
          clear hK K
          try simp only [Act.put, List.getElem_toArray, List.getElem_cons_zero, List.getElem_cons_succ, List.setIfInBounds_toArray, List.set_cons_zero, List.set_cons_succ]
          clear hcQ hfQ hlQ
          refine wpAnyH_done (by kernel_rfl) ?_ _
          generalize World.setCell _ _ _ = W at hs ⊢
          replace hs := hs.swap2.drop
          have HS := Lib.hid hs
          clear hs
          go_wp2
          go_meet
          refine Lib.hid ⟨A11, c11, ?_⟩
          rw [← HN11.out]
          exact (by unfold houR; dsimp only; rw [← HN11.out]; exact HS.out)
      · skip
        have hcQ : W.cell? ⟨p, 1, none⟩ = some (.slice (some ⟨g, 0, none⟩) h.ts.length c) := by first | exact Blk.cell (hs.at 3 rfl) 1 | exact Blk.cell (hs.at 4 rfl) 1
        go_simp
        try clear hHeld
        refine hK.out _ _ (by (try dsimp only); all_goals trivial) (fun hHeld => ?_)
        clear hK K
        try simp only [Act.put, List.getElem_toArray, List.getElem_cons_zero, List.getElem_cons_succ, List.setIfInBounds_toArray, List.set_cons_zero, List.set_cons_succ]
        clear hcQ
        refine wpAnyH_take (i := 15) (oi := _) (v := ?_) rfl (by kernel_rfl) (by kernel_rfl) (by kernel_rfl) (fun _ _ _ h => h) (Or.inl ⟨by rfl, ?_⟩) (by assumption) ?_
        rotate_left
        · (intro w hSw; (try dsimp only at hSw); go_simp; rw [HW.out, if_pos ⟨by omega, by omega⟩, Int.toNat_natCast, HA2.out])
        try simp only [Act.put, List.getElem_toArray, List.getElem_cons_zero, List.getElem_cons_succ, List.setIfInBounds_toArray, List.set_cons_zero, List.set_cons_succ]
        refine wpAnyH_ready (rs := [5]) (by kernel_rfl) (by simp) ?_
        refine (AllReadyH.cons (o := _) rfl (fun K hK => ?_) AllReadyH.nil)
        have hcQ : W.cell? ⟨p, 1, none⟩ = some (.slice (some ⟨g, 0, none⟩) h.ts.length c) := by first | exact Blk.cell (hs.at 3 rfl) 1 | exact Blk.cell (hs.at 4 rfl) 1
        go_simp
        try clear hHeld
        refine hK.out _ _ (by (try dsimp only); all_goals trivial) (fun hHeld => ?_)
        clear hK K
        try simp only [Act.put, List.getElem_toArray, List.getElem_cons_zero, List.getElem_cons_succ, List.setIfInBounds_toArray, List.set_cons_zero, List.set_cons_succ]
        clear hcQ
        refine wpAnyH_take (i := 7) (oi := _) (v := ?_) rfl (by kernel_rfl) (by kernel_rfl) (by kernel_rfl) (fun _ _ _ h => h) (Or.inl ⟨by rfl, ?_⟩) (by assumption) ?_
        rotate_left
        · (intro w hSw; (try dsimp only at hSw); go_simp; rw [if_pos (by omega)])
        try simp only [Act.put, List.getElem_toArray, List.getElem_cons_zero, List.getElem_cons_succ, List.setIfInBounds_toArray, List.set_cons_zero, List.set_cons_succ]
        refine wpAnyH_ready (rs := [8]) (by kernel_rfl) (by simp) ?_
        refine (AllReadyH.cons (o := _) rfl (fun K hK => ?_) AllReadyH.nil)
        refine step_append_src _ (by rfl) _ _ 69 69 (by rfl) 0 87 i3 (.agg #[.int .i64 0, .int .i64 0, .string ⟨#[]⟩, .int .i64 0]) 4 40 Try.underlying69 hi hz0 hz1 hz2 rfl _ 0 [] (by rfl) hs.head _ i _ (by rfl) (own_src (f := trkC) (fun _ => rfl) trk_one (hs.at 2 rfl) Try.underlying69 0 i _ (by omega) (by omega)) (by unfold maxLen; omega) (by omega) (Nat.zero_le _) ?_
        intro v' W hown' hgrow hat
        have hown2 : W.ownsRow 0 87 4 v' i (flat trkC (h.ts.take i)) := by simpa using hown'
        obtain ⟨A10, c10, rfl⟩ := own_form hown2
        replace hs := hs.grown hgrow hown2 hat
        clear hown' hown2 hgrow hat
        try clear hHeld
        refine hK.out _ _ (by (try dsimp only); all_goals trivial) (fun hHeld => ?_)
        clear hK K
        try simp only [Act.put, List.getElem_toArray, List.getElem_cons_zero, List.getElem_cons_succ, List.setIfInBounds_toArray, List.set_cons_zero, List.set_cons_succ]
        refine wpAnyH_ready (rs := [16]) (by kernel_rfl) (by simp) ?_
        refine (AllReadyH.cons (o := _) rfl (fun K hK => ?_) AllReadyH.nil)
        refine step_append_src _ (by rfl) _ _ 69 69 (by rfl) 0 87 i3 (.agg #[.int .i64 0, .int .i64 0, .string ⟨#[]⟩, .int .i64 0]) 4 40 Try.underlying69 hi hz0 hz1 hz2 rfl _ i (flat trkC (h.ts.take i)) (by rfl) hs.head _ (h.ts.length - (i + 1)) _ (by rfl) (own_src2 (f := trkC) (fun _ => rfl) trk_one (hs.at 2 rfl) Try.underlying69 (i + 1) _ (by omega) HA3.out) (by unfold maxLen; omega) (by omega) (Nat.zero_le _) ?_
        intro v' W hown' hgrow hat
        have hown2 : W.ownsRow 0 87 4 v' (h.ts.take i ++ h.ts.drop (i + 1)).length (flat trkC (h.ts.take i ++ h.ts.drop (i + 1))) := by rw [flat_append]; rw [show (h.ts.take i ++ h.ts.drop (i + 1)).length = i + (h.ts.length - (i + 1)) by rw [List.length_append, List.length_take, List.length_drop]; omega]; exact hown'
        obtain ⟨A11, c11, rfl⟩ := own_form hown2
        obtain ⟨n11, hn11⟩ : ∃ n11, n11 = (h.ts.take i ++ h.ts.drop (i + 1)).length := ⟨_, rfl⟩
        replace hs := hs.grown hgrow hown2 hat
        rw [← hn11] at hs ⊢
        have HN11 := Lib.hid hn11
        clear hown' hown2 hgrow hat hn11
        try clear hHeld
        refine hK.out _ _ (by (try dsimp only); all_goals trivial) (fun hHeld => ?_)
        clear hK K
        try simp only [Act.put, List.getElem_toArray, List.getElem_cons_zero, List.getElem_cons_succ, List.setIfInBounds_toArray, List.set_cons_zero, List.set_cons_succ]
        refine wpAnyH_take (i := 17) (oi := _) (v := ?_) rfl (by kernel_rfl) (by kernel_rfl) (by kernel_rfl) (fun _ _ _ h => h) (Or.inl ⟨by rfl, ?_⟩) (by assumption) ?_
        rotate_left
        · (intro w hSw; (try dsimp only at hSw); go_simp; try with_reducible rfl)
        try simp only [Act.put, List.getElem_toArray, List.getElem_cons_zero, List.getElem_cons_succ, List.setIfInBounds_toArray, List.set_cons_zero, List.set_cons_succ]
        refine wpAnyH_take (i := 18) (oi := _) (v := ?_) rfl (by kernel_rfl) (by kernel_rfl) (by kernel_rfl) (fun _ _ _ h => h) (Or.inl ⟨by rfl, ?_⟩) (by assumption) ?_
        rotate_left
        · (intro w hSw; (try dsimp only at hSw); go_simp; try with_reducible rfl)
        try simp only [Act.put, List.getElem_toArray, List.getElem_cons_zero, List.getElem_cons_succ, List.setIfInBounds_toArray, List.set_cons_zero, List.set_cons_succ]
        refine wpAnyH_ready (rs := [19]) (by kernel_rfl) (by simp) ?_
        refine (AllReadyH.cons (o := _) rfl (fun K hK => ?_) AllReadyH.nil)
        obtain ⟨hcQ, hfQ, hlQ⟩ := Blk.all (show Blk W p 71 _ from hs.at 4 rfl)
        go_simp
        replace hs := hs.set4 1 (.slice A11 n11 c11)
        try clear hHeld
        refine hK.out _ _ (by (try dsimp only); all_goals trivial) (fun hHeld => ?_)
        clear hK K
        try simp only [Act.put, List.getElem_toArray, List.getElem_cons_zero, List.getElem_cons_succ, List.setIfInBounds_toArray, List.set_cons_zero, List.set_cons_succ]
        clear hcQ hfQ hlQ
        refine wpAnyH_done (by kernel_rfl) ?_ _
        generalize World.setCell _ _ _ = W at hs ⊢
        replace hs := hs.swap2.drop
        have HS := Lib.hid hs
        clear hs
        go_wp2
        go_meet
        refine Lib.hid ⟨A11, c11, ?_⟩
        rw [← HN11.out]
        exact (by unfold houR; dsimp only; rw [← HN11.out]; exact HS.out)
    · skip
      have hcQ : W.cell? ⟨p, 1, none⟩ = some (.slice (some ⟨g, 0, none⟩) h.ts.length c) := by first | exact Blk.cell (hs.at 3 rfl) 1 | exact Blk.cell (hs.at 4 rfl) 1
      go_simp
      try clear hHeld
      refine hK.out _ _ (by (try dsimp only); all_goals trivial) (fun hHeld => ?_)
      clear hK K
      try simp only [Act.put, List.getElem_toArray, List.getElem_cons_zero, List.getElem_cons_succ, List.setIfInBounds_toArray, List.set_cons_zero, List.set_cons_succ]
      clear hcQ
      refine wpAnyH_take (i := 7) (oi := _) (v := ?_) rfl (by kernel_rfl) (by kernel_rfl) (by kernel_rfl) (fun _ _ _ h => h) (Or.inl ⟨by rfl, ?_⟩) (by assumption) ?_
      rotate_left
      · (intro w hSw; (try dsimp only at hSw); go_simp; rw [if_pos (by omega)])
      try simp only [Act.put, List.getElem_toArray, List.getElem_cons_zero, List.getElem_cons_succ, List.setIfInBounds_toArray, List.set_cons_zero, List.set_cons_succ]
      refine wpAnyH_ready (rs := [1, 12]) (by kernel_rfl) (by simp) ?_
      refine (AllReadyH.cons (o := _) rfl (fun K hK => ?_) (AllReadyH.cons (o := _) rfl (fun K hK => ?_) AllReadyH.nil))
      · skip
        go_simp
        try clear hHeld
        refine hK.out _ _ (by (try dsimp only); all_goals trivial) (fun hHeld => ?_)
        clear hK K
        try simp only [Act.put, List.getElem_toArray, List.getElem_cons_zero, List.getElem_cons_succ, List.setIfInBounds_toArray, List.set_cons_zero, List.set_cons_succ]
        generalize hw : World.alloc W _ = W at hHeld ⊢
        replace hs := hs.lit0S (s := 4) hw
        clear hw
        refine wpAnyH_ready (rs := [8, 12]) (by kernel_rfl) (by simp) ?_
        refine (AllReadyH.cons (o := _) rfl (fun K hK => ?_) (AllReadyH.cons (o := _) rfl (fun K hK => ?_) AllReadyH.nil))
        · skip
          refine step_append_src _ (by rfl) _ _ 69 69 (by rfl) 0 87 i3 (.agg #[.int .i64 0, .int .i64 0, .string ⟨#[]⟩, .int .i64 0]) 4 40 Try.underlying69 hi hz0 hz1 hz2 rfl _ 0 [] (by rfl) hs.head _ i _ (by rfl) (own_src (f := trkC) (fun _ => rfl) trk_one (hs.at 2 rfl) Try.underlying69 0 i _ (by omega) (by omega)) (by unfold maxLen; omega) (by omega) (Nat.zero_le _) ?_
          intro v' W hown' hgrow hat
          have hown2 : W.ownsRow 0 87 4 v' i (flat trkC (h.ts.take i)) := by simpa using hown'
          obtain ⟨A10, c10, rfl⟩ := own_form hown2
          replace hs := hs.grown hgrow hown2 hat
          clear hown' hown2 hgrow hat
          try clear hHeld
          refine hK.out _ _ (by (try dsimp only); all_goals trivial) (fun hHeld => ?_)
          clear hK K
          try simp only [Act.put, List.getElem_toArray, List.getElem_cons_zero, List.getElem_cons_succ, List.setIfInBounds_toArray, List.set_cons_zero, List.set_cons_succ]
          refine wpAnyH_ready (rs := [12]) (by kernel_rfl) (by simp) ?_
          refine (AllReadyH.cons (o := _) rfl (fun K hK => ?_) AllReadyH.nil)
          have hcQ : W.cell? ⟨p, 1, none⟩ = some (.slice (some ⟨g, 0, none⟩) h.ts.length c) := by first | exact Blk.cell (hs.at 3 rfl) 1 | exact Blk.cell (hs.at 4 rfl) 1
          go_simp
          try clear hHeld
          refine hK.out _ _ (by (try dsimp only); all_goals trivial) (fun hHeld => ?_)
          clear hK K
          try simp only [Act.put, List.getElem_toArray, List.getElem_cons_zero, List.getElem_cons_succ, List.setIfInBounds_toArray, List.set_cons_zero, List.set_cons_succ]
          clear hcQ
          refine wpAnyH_take (i := 15) (oi := _) (v := ?_) rfl (by kernel_rfl) (by kernel_rfl) (by kernel_rfl) (fun _ _ _ h => h) (Or.inl ⟨by rfl, ?_⟩) (by assumption) ?_
          rotate_left
          · (intro w hSw; (try dsimp only at hSw); go_simp; rw [HW.out, if_pos ⟨by omega, by omega⟩, Int.toNat_natCast, HA2.out])
          try simp only [Act.put, List.getElem_toArray, List.getElem_cons_zero, List.getElem_cons_succ, List.setIfInBounds_toArray, List.set_cons_zero, List.set_cons_succ]
          refine wpAnyH_ready (rs := [16]) (by kernel_rfl) (by simp) ?_
          refine (AllReadyH.cons (o := _) rfl (fun K hK => ?_) AllReadyH.nil)
          refine step_append_src _ (by rfl) _ _ 69 69 (by rfl) 0 87 i3 (.agg #[.int .i64 0, .int .i64 0, .string ⟨#[]⟩, .int .i64 0]) 4 40 Try.underlying69 hi hz0 hz1 hz2 rfl _ i (flat trkC (h.ts.take i)) (by rfl) hs.head _ (h.ts.length - (i + 1)) _ (by rfl) (own_src2 (f := trkC) (fun _ => rfl) trk_one (hs.at 2 rfl) Try.underlying69 (i + 1) _ (by omega) HA3.out) (by unfold maxLen; omega) (by omega) (Nat.zero_le _) ?_
          intro v' W hown' hgrow hat
          have hown2 : W.ownsRow 0 87 4 v' (h.ts.take i ++ h.ts.drop (i + 1)).length (flat trkC (h.ts.take i ++ h.ts.drop (i + 1))) := by rw [flat_append]; rw [show (h.ts.take i ++ h.ts.drop (i + 1)).length = i + (h.ts.length - (i + 1)) by rw [List.length_append, List.length_take, List.length_drop]; omega]; exact hown'
          obtain ⟨A11, c11, rfl⟩ := own_form hown2
          obtain ⟨n11, hn11⟩ : ∃ n11, n11 = (h.ts.take i ++ h.ts.drop (i + 1)).length := ⟨_, rfl⟩
          replace hs := hs.grown hgrow hown2 hat
          rw [← hn11] at hs ⊢
          have HN11 := Lib.hid hn11
          clear hown' hown2 hgrow hat hn11
          try clear hHeld
          refine hK.out _ _ (by (try dsimp only); all_goals trivial) (fun hHeld => ?_)
          clear hK K
          try simp only [Act.put, List.getElem_toArray, List.getElem_cons_zero, List.getElem_cons_succ, List.setIfInBounds_toArray, List.set_cons_zero, List.set_cons_succ]
          refine wpAnyH_take (i := 17) (oi := _) (v := ?_) rfl (by kernel_rfl) (by kernel_rfl) (by kernel_rfl) (fun _ _ _ h => h) (Or.inl ⟨by rfl, ?_⟩) (by assumption) ?_
          rotate_left
          · (intro w hSw; (try dsimp only at hSw); go_simp; try with_reducible rfl)
          try simp only [Act.put, List.getElem_toArray, List.getElem_cons_zero, List.getElem_cons_succ, List.setIfInBounds_toArray, List.set_cons_zero, List.set_cons_succ]
          refine wpAnyH_take (i := 18) (oi := _) (v := ?_) rfl (by kernel_rfl) (by kernel_rfl) (by kernel_rfl) (fun _ _ _ h => h) (Or.inl ⟨by rfl, ?_⟩) (by assumption) ?_
          rotate_left
          · (intro w hSw; (try dsimp only at hSw); go_simp; try with_reducible rfl)
          try simp only [Act.put, List.getElem_toArray, List.getElem_cons_zero, List.getElem_cons_succ, List.setIfInBounds_toArray, List.set_cons_zero, List.set_cons_succ]
          refine wpAnyH_ready (rs := [19]) (by kernel_rfl) (by simp) ?_
          refine (AllReadyH.cons (o := _) rfl (fun K hK => ?_) AllReadyH.nil)
          obtain ⟨hcQ, hfQ, hlQ⟩ := Blk.all (show Blk W p 71 _ from hs.at 4 rfl)
          go_simp
          replace hs := hs.set4 1 (.slice A11 n11 c11)
          try clear hHeld
          refine hK.out _ _ (by (try dsimp only); all_goals trivial) (fun hHeld => ?_)
          clear hK K
          try simp only [Act.put, List.getElem_toArray, List.getElem_cons_zero, List.getElem_cons_succ, List.setIfInBounds_toArray, List.set_cons_zero, List.set_cons_succ]
          clear hcQ hfQ hlQ
          refine wpAnyH_done (by kernel_rfl) ?_ _
          generalize World.setCell _ _ _ = W at hs ⊢
          replace hs := hs.swap2.drop
          have HS := Lib.hid hs
          clear hs
          go_wp2
          go_meet
          refine Lib.hid ⟨A11, c11, ?_⟩
          rw [← HN11.out]
          exact (by unfold houR; dsimp only; rw [← HN11.out]; exact HS.out)
        · skip
          have hcQ : W.cell? ⟨p, 1, none⟩ = some (.slice (some ⟨g, 0, none⟩) h.ts.length c) := by first | exact Blk.cell (hs.at 3 rfl) 1 | exact Blk.cell (hs.at 4 rfl) 1
          go_simp
          try clear hHeld
          refine hK.out _ _ (by (try dsimp only); all_goals trivial) (fun hHeld => ?_)
          clear hK K
          try simp only [Act.put, List.getElem_toArray, List.getElem_cons_zero, List.getElem_cons_succ, List.setIfInBounds_toArray, List.set_cons_zero, List.set_cons_succ]
          clear hcQ
          refine wpAnyH_take (i := 15) (oi := _) (v := ?_) rfl (by kernel_rfl) (by kernel_rfl) (by kernel_rfl) (fun _ _ _ h => h) (Or.inl ⟨by rfl, ?_⟩) (by assumption) ?_
          rotate_left
          · (intro w hSw; (try dsimp only at hSw); go_simp; rw [HW.out, if_pos ⟨by omega, by omega⟩, Int.toNat_natCast, HA2.out])
          try simp only [Act.put, List.getElem_toArray, List.getElem_cons_zero, List.getElem_cons_succ, List.setIfInBounds_toArray, List.set_cons_zero, List.set_cons_succ]
          refine wpAnyH_ready (rs := [8]) (by kernel_rfl) (by simp) ?_
          refine (AllReadyH.cons (o := _) rfl (fun K hK => ?_) AllReadyH.nil)
          refine step_append_src _ (by rfl) _ _ 69 69 (by rfl) 0 87 i3 (.agg #[.int .i64 0, .int .i64 0, .string ⟨#[]⟩, .int .i64 0]) 4 40 Try.underlying69 hi hz0 hz1 hz2 rfl _ 0 [] (by rfl) hs.head _ i _ (by rfl) (own_src (f := trkC) (fun _ => rfl) trk_one (hs.at 2 rfl) Try.underlying69 0 i _ (by omega) (by omega)) (by unfold maxLen; omega) (by omega) (Nat.zero_le _) ?_
          intro v' W hown' hgrow hat
          have hown2 : W.ownsRow 0 87 4 v' i (flat trkC (h.ts.take i)) := by simpa using hown'
          obtain ⟨A10, c10, rfl⟩ := own_form hown2
          replace hs := hs.grown hgrow hown2 hat
          clear hown' hown2 hgrow hat
          try clear hHeld
          refine hK.out _ _ (by (try dsimp only); all_goals trivial) (fun hHeld => ?_)
          clear hK K
          try simp only [Act.put, List.getElem_toArray, List.getElem_cons_zero, List.getElem_cons_succ, List.setIfInBounds_toArray, List.set_cons_zero, List.set_cons_succ]
          refine wpAnyH_ready (rs := [16]) (by kernel_rfl) (by simp) ?_
          refine (AllReadyH.cons (o := _) rfl (fun K hK => ?_) AllReadyH.nil)
          refine step_append_src _ (by rfl) _ _ 69 69 (by rfl) 0 87 i3 (.agg #[.int .i64 0, .int .i64 0, .string ⟨#[]⟩, .int .i64 0]) 4 40 Try.underlying69 hi hz0 hz1 hz2 rfl _ i (flat trkC (h.ts.take i)) (by rfl) hs.head _ (h.ts.length - (i + 1)) _ (by rfl) (own_src2 (f := trkC) (fun _ => rfl) trk_one (hs.at 2 rfl) Try.underlying69 (i + 1) _ (by omega) HA3.out) (by unfold maxLen; omega) (by omega) (Nat.zero_le _) ?_
          intro v' W hown' hgrow hat
          have hown2 : W.ownsRow 0 87 4 v' (h.ts.take i ++ h.ts.drop (i + 1)).length (flat trkC (h.ts.take i ++ h.ts.drop (i + 1))) := by rw [flat_append]; rw [show (h.ts.take i ++ h.ts.drop (i + 1)).length = i + (h.ts.length - (i + 1)) by rw [List.length_append, List.length_take, List.length_drop]; omega]; exact hown'
          obtain ⟨A11, c11, rfl⟩ := own_form hown2
          obtain ⟨n11, hn11⟩ : ∃ n11, n11 = (h.ts.take i ++ h.ts.drop (i + 1)).length := ⟨_, rfl⟩
          replace hs := hs.grown hgrow hown2 hat
          rw [← hn11] at hs ⊢
          have HN11 := Lib.hid hn11
          clear hown' hown2 hgrow hat hn11
          try clear hHeld
          refine hK.out _ _ (by (try dsimp only); all_goals trivial) (fun hHeld => ?_)
          clear hK K
          try simp only [Act.put, List.getElem_toArray, List.getElem_cons_zero, List.getElem_cons_succ, List.setIfInBounds_toArray, List.set_cons_zero, List.set_cons_succ]
          refine wpAnyH_take (i := 17) (oi := _) (v := ?_) rfl (by kernel_rfl) (by kernel_rfl) (by kernel_rfl) (fun _ _ _ h => h) (Or.inl ⟨by rfl, ?_⟩) (by assumption) ?_
          rotate_left
          · (intro w hSw; (try dsimp only at hSw); go_simp; try with_reducible rfl)
          try simp only [Act.put, List.getElem_toArray, List.getElem_cons_zero, List.getElem_cons_succ, List.setIfInBounds_toArray, List.set_cons_zero, List.set_cons_succ]
          refine wpAnyH_take (i := 18) (oi := _) (v := ?_) rfl (by kernel_rfl) (by kernel_rfl) (by kernel_rfl) (fun _ _ _ h => h) (Or.inl ⟨by rfl, ?_⟩) (by assumption) ?_
          rotate_left
          · (intro w hSw; (try dsimp only at hSw); go_simp; try with_reducible rfl)
          try simp only [Act.put, List.getElem_toArray, List.getElem_cons_zero, List.getElem_cons_succ, List.setIfInBounds_toArray, List.set_cons_zero, List.set_cons_succ]
          refine wpAnyH_ready (rs := [19]) (by kernel_rfl) (by simp) ?_
          refine (AllReadyH.cons (o := _) rfl (fun K hK => ?_) AllReadyH.nil)
          obtain ⟨hcQ, hfQ, hlQ⟩ := Blk.all (show Blk W p 71 _ from hs.at 4 rfl)
          go_simp
          replace hs := hs.set4 1 (.slice A11 n11 c11)
          try clear hHeld
          refine hK.out _ _ (by (try dsimp only); all_goals trivial) (fun hHeld => ?_)
          clear hK K
          try simp only [Act.put, List.getElem_toArray, List.getElem_cons_zero, List.getElem_cons_succ, List.setIfInBounds_toArray, List.set_cons_zero, List.set_cons_succ]
          clear hcQ hfQ hlQ
          refine wpAnyH_done (by kernel_rfl) ?_ _
          generalize World.setCell _ _ _ = W at hs ⊢
          replace hs := hs.swap2.drop
          have HS := Lib.hid hs
          clear hs
          go_wp2
          go_meet
          refine Lib.hid ⟨A11, c11, ?_⟩
          rw [← HN11.out]
          exact (by unfold houR; dsimp only; rw [← HN11.out]; exact HS.out)
      · skip
        have hcQ : W.cell? ⟨p, 1, none⟩ = some (.slice (some ⟨g, 0, none⟩) h.ts.length c) := by first | exact Blk.cell (hs.at 3 rfl) 1 | exact Blk.cell (hs.at 4 rfl) 1
        go_simp
        try clear hHeld
        refine hK.out _ _ (by (try dsimp only); all_goals trivial) (fun hHeld => ?_)
        clear hK K
        try simp only [Act.put, List.getElem_toArray, List.getElem_cons_zero, List.getElem_cons_succ, List.setIfInBounds_toArray, List.set_cons_zero, List.set_cons_succ]
        clear hcQ
        refine wpAnyH_take (i := 15) (oi := _) (v := ?_) rfl (by kernel_rfl) (by kernel_rfl) (by kernel_rfl) (fun _ _ _ h => h) (Or.inl ⟨by rfl, ?_⟩) (by assumption) ?_
        rotate_left
        · (intro w hSw; (try dsimp only at hSw); go_simp; rw [HW.out, if_pos ⟨by omega, by omega⟩, Int.toNat_natCast, HA2.out])
        try simp only [Act.put, List.getElem_toArray, List.getElem_cons_zero, List.getElem_cons_succ, List.setIfInBounds_toArray, List.set_cons_zero, List.set_cons_succ]
        refine wpAnyH_ready (rs := [1]) (by kernel_rfl) (by simp) ?_
        refine (AllReadyH.cons (o := _) rfl (fun K hK => ?_) AllReadyH.nil)
        go_simp
        try clear hHeld
        refine hK.out _ _ (by (try dsimp only); all_goals trivial) (fun hHeld => ?_)
        clear hK K
        try simp only [Act.put, List.getElem_toArray, List.getElem_cons_zero, List.getElem_cons_succ, List.setIfInBounds_toArray, List.set_cons_zero, List.set_cons_succ]
        generalize hw : World.alloc W _ = W at hHeld ⊢
        replace hs := hs.lit0S (s := 4) hw
        clear hw
        refine wpAnyH_ready (rs := [8]) (by kernel_rfl) (by simp) ?_
        refine (AllReadyH.cons (o := _) rfl (fun K hK => ?_) AllReadyH.nil)
        refine step_append_src _ (by rfl) _ _ 69 69 (by rfl) 0 87 i3 (.agg #[.int .i64 0, .int .i64 0, .string ⟨#[]⟩, .int .i64 0]) 4 40 Try.underlying69 hi hz0 hz1 hz2 rfl _ 0 [] (by rfl) hs.head _ i _ (by rfl) (own_src (f := trkC) (fun _ => rfl) trk_one (hs.at 2 rfl) Try.underlying69 0 i _ (by omega) (by omega)) (by unfold maxLen; omega) (by omega) (Nat.zero_le _) ?_
        intro v' W hown' hgrow hat
        have hown2 : W.ownsRow 0 87 4 v' i (flat trkC (h.ts.take i)) := by simpa using hown'
        obtain ⟨A10, c10, rfl⟩ := own_form hown2
        replace hs := hs.grown hgrow hown2 hat
        clear hown' hown2 hgrow hat
        try clear hHeld
        refine hK.out _ _ (by (try dsimp only); all_goals trivial) (fun hHeld => ?_)
        clear hK K
        try simp only [Act.put, List.getElem_toArray, List.getElem_cons_zero, List.getElem_cons_succ, List.setIfInBounds_toArray, List.set_cons_zero, List.set_cons_succ]
        refine wpAnyH_ready (rs := [16]) (by kernel_rfl) (by simp) ?_
        refine (AllReadyH.cons (o := _) rfl (fun K hK => ?_) AllReadyH.nil)
        refine step_append_src _ (by rfl) _ _ 69 69 (by rfl) 0 87 i3 (.agg #[.int .i64 0, .int .i64 0, .string ⟨#[]⟩, .int .i64 0]) 4 40 Try.underlying69 hi hz0 hz1 hz2 rfl _ i (flat trkC (h.ts.take i)) (by rfl) hs.head _ (h.ts.length - (i + 1)) _ (by rfl) (own_src2 (f := trkC) (fun _ => rfl) trk_one (hs.at 2 rfl) Try.underlying69 (i + 1) _ (by omega) HA3.out) (by unfold maxLen; omega) (by omega) (Nat.zero_le _) ?_
        intro v' W hown' hgrow hat
        have hown2 : W.ownsRow 0 87 4 v' (h.ts.take i ++ h.ts.drop (i + 1)).length (flat trkC (h.ts.take i ++ h.ts.drop (i + 1))) := by rw [flat_append]; rw [show (h.ts.take i ++ h.ts.drop (i + 1)).length = i + (h.ts.length - (i + 1)) by rw [List.length_append, List.length_take, List.length_drop]; omega]; exact hown'
        obtain ⟨A11, c11, rfl⟩ := own_form hown2
        obtain ⟨n11, hn11⟩ : ∃ n11, n11 = (h.ts.take i ++ h.ts.drop (i + 1)).length := ⟨_, rfl⟩
        replace hs := hs.grown hgrow hown2 hat
        rw [← hn11] at hs ⊢
        have HN11 := Lib.hid hn11
        clear hown' hown2 hgrow hat hn11
        try clear hHeld
        refine hK.out _ _ (by (try dsimp only); all_goals trivial) (fun hHeld => ?_)
        clear hK K
        try simp only [Act.put, List.getElem_toArray, List.getElem_cons_zero, List.getElem_cons_succ, List.setIfInBounds_toArray, List.set_cons_zero, List.set_cons_succ]
        refine wpAnyH_take (i := 17) (oi := _) (v := ?_) rfl (by kernel_rfl) (by kernel_rfl) (by kernel_rfl) (fun _ _ _ h => h) (Or.inl ⟨by rfl, ?_⟩) (by assumption) ?_
        rotate_left
        · (intro w hSw; (try dsimp only at hSw); go_simp; try with_reducible rfl)
        try simp only [Act.put, List.getElem_toArray, List.getElem_cons_zero, List.getElem_cons_succ, List.setIfInBounds_toArray, List.set_cons_zero, List.set_cons_succ]
        refine wpAnyH_take (i := 18) (oi := _) (v := ?_) rfl (by kernel_rfl) (by kernel_rfl) (by kernel_rfl) (fun _ _ _ h => h) (Or.inl ⟨by rfl, ?_⟩) (by assumption) ?_
        rotate_left
        · (intro w hSw; (try dsimp only at hSw); go_simp; try with_reducible rfl)
        try simp only [Act.put, List.getElem_toArray, List.getElem_cons_zero, List.getElem_cons_succ, List.setIfInBounds_toArray, List.set_cons_zero, List.set_cons_succ]
        refine wpAnyH_ready (rs := [19]) (by kernel_rfl) (by simp) ?_
        refine (AllReadyH.cons (o := _) rfl (fun K hK => ?_) AllReadyH.nil)
        obtain ⟨hcQ, hfQ, hlQ⟩ := Blk.all (show Blk W p 71 _ from hs.at 4 rfl)
        go_simp
        replace hs := hs.set4 1 (.slice A11 n11 c11)
        try clear hHeld
        refine hK.out _ _ (by (try dsimp only); all_goals trivial) (fun hHeld => ?_)
        clear hK K
        try simp only [Act.put, List.getElem_toArray, List.getElem_cons_zero, List.getElem_cons_succ, List.setIfInBounds_toArray, List.set_cons_zero, List.set_cons_succ]
        clear hcQ hfQ hlQ
        refine wpAnyH_done (by kernel_rfl) ?_ _
        generalize World.setCell _ _ _ = W at hs ⊢
        replace hs := hs.swap2.drop
        have HS := Lib.hid hs
        clear hs
        go_wp2
        go_meet
        refine Lib.hid ⟨A11, c11, ?_⟩
        rw [← HN11.out]
        exact (by unfold houR; dsimp only; rw [← HN11.out]; exact HS.out)
    · skip
      have hcQ : W.cell? ⟨p, 1, none⟩ = some (.slice (some ⟨g, 0, none⟩) h.ts.length c) := by first | exact Blk.cell (hs.at 3 rfl) 1 | exact Blk.cell (hs.at 4 rfl) 1
      go_simp
      try clear hHeld
      refine hK.out _ _ (by (try dsimp only); all_goals trivial) (fun hHeld => ?_)
      clear hK K
      try simp only [Act.put, List.getElem_toArray, List.getElem_cons_zero, List.getElem_cons_succ, List.setIfInBounds_toArray, List.set_cons_zero, List.set_cons_succ]
      clear hcQ
      refine wpAnyH_take (i := 15) (oi := _) (v := ?_) rfl (by kernel_rfl) (by kernel_rfl) (by kernel_rfl) (fun _ _ _ h => h) (Or.inl ⟨by rfl, ?_⟩) (by assumption) ?_
      rotate_left
      · (intro w hSw; (try dsimp only at hSw); go_simp; rw [HW.out, if_pos ⟨by omega, by omega⟩, Int.toNat_natCast, HA2.out])
      try simp only [Act.put, List.getElem_toArray, List.getElem_cons_zero, List.getElem_cons_succ, List.setIfInBounds_toArray, List.set_cons_zero, List.set_cons_succ]
      refine wpAnyH_ready (rs := [1, 5]) (by kernel_rfl) (by simp) ?_
      refine (AllReadyH.cons (o := _) rfl (fun K hK => ?_) (AllReadyH.cons (o := _) rfl (fun K hK => ?_) AllReadyH.nil))
      · skip
        go_simp
        try clear hHeld
        refine hK.out _ _ (by (try dsimp only); all_goals trivial) (fun hHeld => ?_)
        clear hK K
        try simp only [Act.put, List.getElem_toArray, List.getElem_cons_zero, List.getElem_cons_succ, List.setIfInBounds_toArray, List.set_cons_zero, List.set_cons_succ]
        generalize hw : World.alloc W _ = W at hHeld ⊢
        replace hs := hs.lit0S (s := 4) hw
        clear hw
        refine wpAnyH_ready (rs := [5]) (by kernel_rfl) (by simp) ?_
        refine (AllReadyH.cons (o := _) rfl (fun K hK => ?_) AllReadyH.nil)
        have hcQ : W.cell? ⟨p, 1, none⟩ = some (.slice (some ⟨g, 0, none⟩) h.ts.length c) := by first | exact Blk.cell (hs.at 3 rfl) 1 | exact Blk.cell (hs.at 4 rfl) 1
        go_simp
        try clear hHeld
        refine hK.out _ _ (by (try dsimp only); all_goals trivial) (fun hHeld => ?_)
        clear hK K
        try simp only [Act.put, List.getElem_toArray, List.getElem_cons_zero, List.getElem_cons_succ, List.setIfInBounds_toArray, List.set_cons_zero, List.set_cons_succ]
        clear hcQ
        refine wpAnyH_take (i := 7) (oi := _) (v := ?_) rfl (by kernel_rfl) (by kernel_rfl) (by kernel_rfl) (fun _ _ _ h => h) (Or.inl ⟨by rfl, ?_⟩) (by assumption) ?_
        rotate_left
        · (intro w hSw; (try dsimp only at hSw); go_simp; rw [if_pos (by omega)])
        try simp only [Act.put, List.getElem_toArray, List.getElem_cons_zero, List.getElem_cons_succ, List.setIfInBounds_toArray, List.set_cons_zero, List.set_cons_succ]
        refine wpAnyH_ready (rs := [8]) (by kernel_rfl) (by simp) ?_
        refine (AllReadyH.cons (o := _) rfl (fun K hK => ?_) AllReadyH.nil)
        refine step_append_src _ (by rfl) _ _ 69 69 (by rfl) 0 87 i3 (.agg #[.int .i64 0, .int .i64 0, .string ⟨#[]⟩, .int .i64 0]) 4 40 Try.underlying69 hi hz0 hz1 hz2 rfl _ 0 [] (by rfl) hs.head _ i _ (by rfl) (own_src (f := trkC) (fun _ => rfl) trk_one (hs.at 2 rfl) Try.underlying69 0 i _ (by omega) (by omega)) (by unfold maxLen; omega) (by omega) (Nat.zero_le _) ?_
        intro v' W hown' hgrow hat
        have hown2 : W.ownsRow 0 87 4 v' i (flat trkC (h.ts.take i)) := by simpa using hown'
        obtain ⟨A10, c10, rfl⟩ := own_form hown2
        replace hs := hs.grown hgrow hown2 hat
        clear hown' hown2 hgrow hat
        try clear hHeld
        refine hK.out _ _ (by (try dsimp only); all_goals trivial) (fun hHeld => ?_)
        clear hK K
        try simp only [Act.put, List.getElem_toArray, List.getElem_cons_zero, List.getElem_cons_succ, List.setIfInBounds_toArray, List.set_cons_zero, List.set_cons_succ]
        refine wpAnyH_ready (rs := [16]) (by kernel_rfl) (by simp) ?_
        refine (AllReadyH.cons (o := _) rfl (fun K hK => ?_) AllReadyH.nil)
        refine step_append_src _ (by rfl) _ _ 69 69 (by rfl) 0 87 i3 (.agg #[.int .i64 0, .int .i64 0, .string ⟨#[]⟩, .int .i64 0]) 4 40 Try.underlying69 hi hz0 hz1 hz2 rfl _ i (flat trkC (h.ts.take i)) (by rfl) hs.head _ (h.ts.length - (i + 1)) _ (by rfl) (own_src2 (f := trkC) (fun _ => rfl) trk_one (hs.at 2 rfl) Try.underlying69 (i + 1) _ (by omega) HA3.out) (by unfold maxLen; omega) (by omega) (Nat.zero_le _) ?_
        intro v' W hown' hgrow hat
        have hown2 : W.ownsRow 0 87 4 v' (h.ts.take i ++ h.ts.drop (i + 1)).length (flat trkC (h.ts.take i ++ h.ts.drop (i + 1))) := by rw [flat_append]; rw [show (h.ts.take i ++ h.ts.drop (i + 1)).length = i + (h.ts.length - (i + 1)) by rw [List.length_append, List.length_take, List.length_drop]; omega]; exact hown'
        obtain ⟨A11, c11, rfl⟩ := own_form hown2
        obtain ⟨n11, hn11⟩ : ∃ n11, n11 = (h.ts.take i ++ h.ts.drop (i + 1)).length := ⟨_, rfl⟩
        replace hs := hs.grown hgrow hown2 hat
        rw [← hn11] at hs ⊢
        have HN11 := Lib.hid hn11
        clear hown' hown2 hgrow hat hn11
        try clear hHeld
        refine hK.out _ _ (by (try dsimp only); all_goals trivial) (fun hHeld => ?_)
        clear hK K
        try simp only [Act.put, List.getElem_toArray, List.getElem_cons_zero, List.getElem_cons_succ, List.setIfInBounds_toArray, List.set_cons_zero, List.set_cons_succ]
        refine wpAnyH_take (i := 17) (oi := _) (v := ?_) rfl (by kernel_rfl) (by kernel_rfl) (by kernel_rfl) (fun _ _ _ h => h) (Or.inl ⟨by rfl, ?_⟩) (by assumption) ?_
        rotate_left
        · (intro w hSw; (try dsimp only at hSw); go_simp; try with_reducible rfl)
        try simp only [Act.put, List.getElem_toArray, List.getElem_cons_zero, List.getElem_cons_succ, List.setIfInBounds_toArray, List.set_cons_zero, List.set_cons_succ]
        refine wpAnyH_take (i := 18) (oi := _) (v := ?_) rfl (by kernel_rfl) (by kernel_rfl) (by kernel_rfl) (fun _ _ _ h => h) (Or.inl ⟨by rfl, ?_⟩) (by assumption) ?_
        rotate_left
        · (intro w hSw; (try dsimp only at hSw); go_simp; try with_reducible rfl)
        try simp only [Act.put, List.getElem_toArray, List.getElem_cons_zero, List.getElem_cons_succ, List.setIfInBounds_toArray, List.set_cons_zero, List.set_cons_succ]
        refine wpAnyH_ready (rs := [19]) (by kernel_rfl) (by simp) ?_
        refine (AllReadyH.cons (o := _) rfl (fun K hK => ?_) AllReadyH.nil)
        obtain ⟨hcQ, hfQ, hlQ⟩ := Blk.all (show Blk W p 71 _ from hs.at 4 rfl)
        go_simp
        replace hs := hs.set4 1 (.slice A11 n11 c11)
        try clear hHeld
        refine hK.out _ _ (by (try dsimp only); all_goals trivial) (fun hHeld => ?_)
        clear hK K
        try simp only [Act.put, List.getElem_toArray, List.getElem_cons_zero, List.getElem_cons_succ, List.setIfInBounds_toArray, List.set_cons_zero, List.set_cons_succ]
        clear hcQ hfQ hlQ
        refine wpAnyH_done (by kernel_rfl) ?_ _
        generalize World.setCell _ _ _ = W at hs ⊢
        replace hs := hs.swap2.drop
        have HS := Lib.hid hs
        clear hs
        go_wp2
        go_meet
        refine Lib.hid ⟨A11, c11, ?_⟩
        rw [← HN11.out]
        exact (by unfold houR; dsimp only; rw [← HN11.out]; exact HS.out)
      · skip
        have hcQ : W.cell? ⟨p, 1, none⟩ = some (.slice (some ⟨g, 0, none⟩) h.ts.length c) := by first | exact Blk.cell (hs.at 3 rfl) 1 | exact Blk.cell (hs.at 4 rfl) 1
        go_simp
        try clear hHeld
        refine hK.out _ _ (by (try dsimp only); all_goals trivial) (fun hHeld => ?_)
        clear hK K
        try simp only [Act.put, List.getElem_toArray, List.getElem_cons_zero, List.getElem_cons_succ, List.setIfInBounds_toArray, List.set_cons_zero, List.set_cons_succ]
        clear hcQ
        refine wpAnyH_take (i := 7) (oi := _) (v := ?_) rfl (by kernel_rfl) (by kernel_rfl) (by kernel_rfl) (fun _ _ _ h => h) (Or.inl ⟨by rfl, ?_⟩) (by assumption) ?_
        rotate_left
        · (intro w hSw; (try dsimp only at hSw); go_simp; rw [if_pos (by omega)])
        try simp only [Act.put, List.getElem_toArray, List.getElem_cons_zero, List.getElem_cons_succ, List.setIfInBounds_toArray, List.set_cons_zero, List.set_cons_succ]
        refine wpAnyH_ready (rs := [1]) (by kernel_rfl) (by simp) ?_
        refine (AllReadyH.cons (o := _) rfl (fun K hK => ?_) AllReadyH.nil)
        go_simp
        try clear hHeld
        refine hK.out _ _ (by (try dsimp only); all_goals trivial) (fun hHeld => ?_)
        clear hK K
        try simp only [Act.put, List.getElem_toArray, List.getElem_cons_zero, List.getElem_cons_succ, List.setIfInBounds_toArray, List.set_cons_zero, List.set_cons_succ]
        generalize hw : World.alloc W _ = W at hHeld ⊢
        replace hs := hs.lit0S (s := 4) hw
        clear hw
        refine wpAnyH_ready (rs := [8]) (by kernel_rfl) (by simp) ?_
        refine (AllReadyH.cons (o := _) rfl (fun K hK => ?_) AllReadyH.nil)
        refine step_append_src _ (by rfl) _ _ 69 69 (by rfl) 0 87 i3 (.agg #[.int .i64 0, .int .i64 0, .string ⟨#[]⟩, .int .i64 0]) 4 40 Try.underlying69 hi hz0 hz1 hz2 rfl _ 0 [] (by rfl) hs.head _ i _ (by rfl) (own_src (f := trkC) (fun _ => rfl) trk_one (hs.at 2 rfl) Try.underlying69 0 i _ (by omega) (by omega)) (by unfold maxLen; omega) (by omega) (Nat.zero_le _) ?_
        intro v' W hown' hgrow hat
        have hown2 : W.ownsRow 0 87 4 v' i (flat trkC (h.ts.take i)) := by simpa using hown'
        obtain ⟨A10, c10, rfl⟩ := own_form hown2
        replace hs := hs.grown hgrow hown2 hat
        clear hown' hown2 hgrow hat
        try clear hHeld
        refine hK.out _ _ (by (try dsimp only); all_goals trivial) (fun hHeld => ?_)
        clear hK K
        try simp only [Act.put, List.getElem_toArray, List.getElem_cons_zero, List.getElem_cons_succ, List.setIfInBounds_toArray, List.set_cons_zero, List.set_cons_succ]
        refine wpAnyH_ready (rs := [16]) (by kernel_rfl) (by simp) ?_
        refine (AllReadyH.cons (o := _) rfl (fun K hK => ?_) AllReadyH.nil)
        refine step_append_src _ (by rfl) _ _ 69 69 (by rfl) 0 87 i3 (.agg #[.int .i64 0, .int .i64 0, .string ⟨#[]⟩, .int .i64 0]) 4 40 Try.underlying69 hi hz0 hz1 hz2 rfl _ i (flat trkC (h.ts.take i)) (by rfl) hs.head _ (h.ts.length - (i + 1)) _ (by rfl) (own_src2 (f := trkC) (fun _ => rfl) trk_one (hs.at 2 rfl) Try.underlying69 (i + 1) _ (by omega) HA3.out) (by unfold maxLen; omega) (by omega) (Nat.zero_le _) ?_
        intro v' W hown' hgrow hat
        have hown2 : W.ownsRow 0 87 4 v' (h.ts.take i ++ h.ts.drop (i + 1)).length (flat trkC (h.ts.take i ++ h.ts.drop (i + 1))) := by rw [flat_append]; rw [show (h.ts.take i ++ h.ts.drop (i + 1)).length = i + (h.ts.length - (i + 1)) by rw [List.length_append, List.length_take, List.length_drop]; omega]; exact hown'
        obtain ⟨A11, c11, rfl⟩ := own_form hown2
        obtain ⟨n11, hn11⟩ : ∃ n11, n11 = (h.ts.take i ++ h.ts.drop (i + 1)).length := ⟨_, rfl⟩
        replace hs := hs.grown hgrow hown2 hat
        rw [← hn11] at hs ⊢
        have HN11 := Lib.hid hn11
        clear hown' hown2 hgrow hat hn11
        try clear hHeld
        refine hK.out _ _ (by (try dsimp only); all_goals trivial) (fun hHeld => ?_)
        clear hK K
        try simp only [Act.put, List.getElem_toArray, List.getElem_cons_zero, List.getElem_cons_succ, List.setIfInBounds_toArray, List.set_cons_zero, List.set_cons_succ]
        refine wpAnyH_take (i := 17) (oi := _) (v := ?_) rfl (by kernel_rfl) (by kernel_rfl) (by kernel_rfl) (fun _ _ _ h => h) (Or.inl ⟨by rfl, ?_⟩) (by assumption) ?_
        rotate_left
        · (intro w hSw; (try dsimp only at hSw); go_simp; try with_reducible rfl)
        try simp only [Act.put, List.getElem_toArray, List.getElem_cons_zero, List.getElem_cons_succ, List.setIfInBounds_toArray, List.set_cons_zero, List.set_cons_succ]
        refine wpAnyH_take (i := 18) (oi := _) (v := ?_) rfl (by kernel_rfl) (by kernel_rfl) (by kernel_rfl) (fun _ _ _ h => h) (Or.inl ⟨by rfl, ?_⟩) (by assumption) ?_
        rotate_left
        · (intro w hSw; (try dsimp only at hSw); go_simp; try with_reducible rfl)
        try simp only [Act.put, List.getElem_toArray, List.getElem_cons_zero, List.getElem_cons_succ, List.setIfInBounds_toArray, List.set_cons_zero, List.set_cons_succ]
        refine wpAnyH_ready (rs := [19]) (by kernel_rfl) (by simp) ?_
        refine (AllReadyH.cons (o := _) rfl (fun K hK => ?_) AllReadyH.nil)
        obtain ⟨hcQ, hfQ, hlQ⟩ := Blk.all (show Blk W p 71 _ from hs.at 4 rfl)
        go_simp
        replace hs := hs.set4 1 (.slice A11 n11 c11)
        try clear hHeld
        refine hK.out _ _ (by (try dsimp only); all_goals trivial) (fun hHeld => ?_)
        clear hK K
        try simp only [Act.put, List.getElem_toArray, List.getElem_cons_zero, List.getElem_cons_succ, List.setIfInBounds_toArray, List.set_cons_zero, List.set_cons_succ]
        clear hcQ hfQ hlQ
        refine wpAnyH_done (by kernel_rfl) ?_ _
        generalize World.setCell _ _ _ = W at hs ⊢
        replace hs := hs.swap2.drop
        have HS := Lib.hid hs
        clear hs
        go_wp2
        go_meet
        refine Lib.hid ⟨A11, c11, ?_⟩
        rw [← HN11.out]
        exact (by unfold houR; dsimp only; rw [← HN11.out]; exact HS.out)
  case rest =>
    obtain ⟨A', c', hs⟩ := hcut.out
    obtain ⟨ts', hts⟩ : ∃ l, l = h.ts.take i ++ h.ts.drop (i + 1) := ⟨_, rfl⟩
    rw [← hts] at hs HE
    clear HS hcP hfP hlP hcut hts hcc
    obtain ⟨hcP, hfP, hlP⟩ := Blk.all (hs.at 3 rfl)
    have HS := Lib.hid hs
    clear hs
    go_upto_region 7 with fail
    have H0 := Lib.hid (HS.out.nil (e := 88) (size := 3))
    clear HS hcP hfP hlP
    go_loopw [6, 37] (fun lv iv wr => ∃ (k : Nat) (B2 : Option Addr) (cb2 : Nat) (l : List Sb), k ≤ h.ss.length ∧ iv = .int .i64 k ∧ lv = .slice B2 l.length cb2 ∧ l.length ≤ k ∧ Hid (l = (h.ss.take k).filter (fun s => !(s.track == id)) ∧ St I (row 88 3 (.slice B2 l.length cb2) l.length (flat sbC l) :: houR p { h with ts := ts' } vM (.slice A' ts'.length c') (.slice B h.ss.length cb) M) wr)) (fun _ iv _ => h.ss.length - (intOf iv).toNat)
    case atStart => exact ⟨0, none, 0, [], by omega, rfl, rfl, Nat.le_refl _, rfl, H0.out⟩
    case round =>
      obtain ⟨k, B2, cb2, l, hk, rfl, rfl, hlk, hh⟩ := hrel
      obtain ⟨hl2, hs⟩ := hh.out
      clear hh H0
      obtain ⟨hcP, hfP, hlP⟩ := Blk.all (hs.at 4 rfl)
      by_cases hlt : k < h.ss.length
      · obtain ⟨g, rfl, _, hcc, hg, hcell, _⟩ := flat_cell (f := sbC) (s := 3) (l := h.ss) (fun _ => rfl) hs.swap3 (by omega) (by decide)
        obtain ⟨x, hx⟩ : ∃ x, x = h.ss[k] := ⟨_, rfl⟩
        have z0 : wr.cell? ⟨g, k * 3, none⟩ = some (.int .i64 h.ss[k].member) := hcell k hlt 0 (by decide)
        have z1 : wr.cell? ⟨g, k * 3 + 1, none⟩ = some (.int .i64 h.ss[k].track) := hcell k hlt 1 (by decide)
        have z2 : wr.cell? ⟨g, k * 3 + 2, none⟩ = some (.int .i64 h.ss[k].layer) := hcell k hlt 2 (by decide)
        have hnext : (h.ss.take (k + 1)).filter (fun s => !(s.track == id)) = l ++ (if (!(x.track == id)) = true then [x] else []) := by
          rw [List.take_succ_eq_append_getElem hlt, List.filter_append, ← hl2, hx]
          congr 1
          simp only [List.filter_cons, List.filter_nil]
        rw [← hx] at z0 z1 z2
        have HN := Lib.hid hnext
        have HS := Lib.hid hs
        clear hcell hl2 hx hnext hs
        cases hb : (x.track == id)
        rotate_left
        · rw [hb] at HN
          have HN2 : Hid ((h.ss.take (k + 1)).filter (fun s => !(s.track == id)) = l) := Lib.hid (by rw [HN.out]; simp)
          clear HN
          go_wp2
          go_roundw
          case rel => exact ⟨k + 1, B2, cb2, l, by omega, by go_num, rfl, by omega, HN2.out.symm, HS.out⟩
          case measure => simp [intOf]; omega
        · rw [hb] at HN
          have HN2 : Hid ((h.ss.take (k + 1)).filter (fun s => !(s.track == id)) = l ++ [x]) := Lib.hid (by rw [HN.out]; simp)
          obtain ⟨i3, hi, hz0, hz1, hz2⟩ := info_parts info88
          have hs0 := HS.out.litSrcV (P := Try.prog) (t := 56) (e := 88) (cs := #[.int .i64 x.member, .int .i64 x.track, .int .i64 x.layer]) (n := 1) (size := 3) rfl (by decide) Try.underlying56 (by simp [Value.oneCell'])
          have Hs := Lib.hid hs0
          have HG := Lib.hid (HS.out.grow (.cells #[.int .i64 x.member, .int .i64 x.track, .int .i64 x.layer] 88))
          clear HN HS hs0
          go_wp2_with (at_builtin; refine wpList_append_src _ rfl _ _ 56 56 rfl 0 88 i3 (.agg #[.int .i64 0, .int .i64 0, .int .i64 0]) 3 24 Try.underlying56 hi hz0 hz1 hz2 rfl _ l.length (flat sbC l) rfl HG.out.head _ 1 _ rfl Hs.out (by unfold maxLen; omega) (by omega) (Nat.zero_le _) ?_)
          intro v' w' hown hgrow hat
          have hown2 : w'.ownsRow 0 88 3 v' (l ++ [x]).length (flat sbC (l ++ [x])) := by simpa [flat_append, flat] using hown
          have hs3 := HG.out.grown hgrow hown2 (by simpa using hat)
          obtain ⟨B', c', rfl⟩ := own_form hown2
          obtain ⟨n2, hn2⟩ : ∃ n2, n2 = (l ++ [x]).length := ⟨_, rfl⟩
          rw [← hn2] at hs3 ⊢
          have HS3 := Lib.hid (And.intro hn2 hs3)
          clear hown hown2 hgrow hat hs3 hn2 HG Hs z0 z1 z2 hcP hfP hlP
          go_wp2
          go_roundw
          case rel => exact ⟨k + 1, B', c', l ++ [x], by omega, by go_num, by rw [← HS3.out.1], by simp; omega, HN2.out.symm, by rw [← HS3.out.1]; exact HS3.out.2⟩
          case measure => simp [intOf]; omega
      · have hk' : k = h.ss.length := by omega
        have HL := Lib.hid (show l = h.ss.filter (fun s => !(s.track == id)) by rw [hl2, hk', List.take_length])
        have hk2 : (h.ss.length : Int) ≤ k := by omega
        clear hlt hl2 hk'
        obtain ⟨n9, hn9⟩ : ∃ n9, n9 = l.length := ⟨_, rfl⟩
        rw [← hn9] at hs ⊢
        have HN9 := Lib.hid hn9
        have HS := Lib.hid (hs.set4 2 (.slice B2 n9 cb2)).swap3.drop
        clear hs hn9
        go_wp2
        go_returns
        refine Ret.mk (.refl I) HS.out ⟨rfl, ⟨by rw [HE.out]; rfl, _, _, _, by rw [HE.out, ← HL.out]; unfold houR; dsimp only; rw [← HN9.out]; rfl⟩⟩
end Go.Proofs.Ytbaobonlolbnpaa

