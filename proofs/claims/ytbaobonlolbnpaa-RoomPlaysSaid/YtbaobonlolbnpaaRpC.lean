/- rostrumref23.House.Publish. -/
import Derived.Test.YtbaobonlolbnpaaRpB
namespace Go.Proofs.Ytbaobonlolbnpaa
open Go.RowKit
set_option linter.unusedSimpArgs false

theorem rem1 {r : Int} (h : 0 ≤ r ∧ r ≤ 7) : (Int.tmod r 2 == 0) = decide (r % 2 = 0) := by
  have : r = 0 ∨ r = 1 ∨ r = 2 ∨ r = 3 ∨ r = 4 ∨ r = 5 ∨ r = 6 ∨ r = 7 := by omega
  rcases this with rfl | rfl | rfl | rfl | rfl | rfl | rfl | rfl <;> decide
theorem rem2 {r : Int} (h : 0 ≤ r ∧ r ≤ 7) : (Int.tmod (Int.tdiv r 2) 2 == 0) = decide (r / 2 % 2 = 0) := by
  have : r = 0 ∨ r = 1 ∨ r = 2 ∨ r = 3 ∨ r = 4 ∨ r = 5 ∨ r = 6 ∨ r = 7 := by omega
  rcases this with rfl | rfl | rfl | rfl | rfl | rfl | rfl | rfl <;> decide
theorem pKeepR {w : World} {p : Nat} {x y z u v : Value} (h2 : Blk w p 71 #[x, y, z, u, v]) : w.cell? ⟨p, 4, none⟩ = some v := h2.cell 4
def PR (p : Nat) (vM vS : Value) (M : List Res) (r : Ho × Int × Int) (v : Value) (M' : List Res) : Prop := v = .tuple #[.int .i64 r.2.1, .int .i64 r.2.2] ∧ ∃ vT', M' = houR p r.1 vM vT' vS M
set_option maxRecDepth 8000 in
set_option maxHeartbeats 8000000 in
theorem publishR (I : Img) (M : List Res) (w : World) (p : Nat) (h : Ho) (vM vT vS : Value) (id : Int) (mid : ByteArray) (kind : Int) (hst : St I (houR p h vM vT vS M) w) (hl : h.ms.length ≤ 1000000) (hlt : h.ts.length ≤ 1000000) (hli : 0 ≤ h.li ∧ h.li ≤ 1000000) (hmd : mid.size ≤ maxLen) (hr : ∀ m ∈ h.ms, 0 ≤ m.rights ∧ m.rights ≤ 7) (hmem : ∀ t ∈ h.ts, mem? h t.member ≠ none) (h8 : ∀ name, (tracksS h name).length ≤ 8) :
    Calls Try.prog 30 #[.pointer (some ⟨p, 0, none⟩), .int .i64 id, .string mid, .int .i64 kind] w (Ret I (fun v J M' => I = J ∧ PR p vM vS M (publishS h id mid kind) v M')) := by
  obtain ⟨C, cc, rfl⟩ := own_form (show w.ownsRow 0 90 5 vM _ _ from hst.head)
  have hm := memR I M w p h _ vT vS id hst hl
  obtain ⟨hcP, hfP, hlP⟩ := Blk.all (hst.at 3 rfl)
  have H0 := Lib.hid hst
  clear hst
  go_enter Try.func30, Try.ntmps30
  rcases idx_mem h id with ⟨e, hf⟩ | ⟨i, hi, e, hf⟩
  · rw [e] at hm
    have HE := Lib.hid (show publishS h id mid kind = (h, 0, 7) by unfold publishS; rw [hf])
    clear hf e
    go_wp2_with (go_at_call 45; refine hm.mono ?_; clear hm; rintro e w2 ⟨rfl, hw2⟩; subst w2)
    go_returns
    refine Ret.mk (.refl I) H0.out ⟨rfl, ?_⟩
    rw [HE.out]
    exact ⟨rfl, vT, rfl⟩
  rw [e] at hm
  have hmm : h.ms[i] ∈ h.ms := List.getElem_mem hi
  obtain ⟨g, rfl, _, hcc, hg, hcell, _⟩ := flat_cell (f := memC) (s := 5) (fun _ => rfl) H0.out (by omega) (by decide)
  have z1 := hcell i hi 1 (by decide)
  have z2 := hcell i hi 2 (by decide)
  have z3 := hcell i hi 3 (by decide)
  have z4 := hcell i hi 4 (by decide)
  obtain ⟨m, hm2⟩ : ∃ m, m = h.ms[i] := ⟨_, rfl⟩
  rw [← hm2] at z1 z2 z3 z4 hf hmm
  simp only [memC, List.getElem?_cons_succ, List.getElem?_cons_zero] at z1 z2 z3 z4
  have hE : publishS h id mid kind = if m.rights % 2 = 0 then (h, 0, 10)
    else if wordB mid 1 32 = false ∨ (kind ≠ 1 ∧ kind ≠ 2) then (h, 0, 1)
    else if h.ts.any (fun t => t.member == id && t.mid.toList == mid.toList) = true then (h, 0, 9)
    else if (tracksS h m.room).length = 8 then (h, 0, 6)
    else ({ h with ts := h.ts ++ [⟨h.li + 1, id, mid, kind⟩], li := h.li + 1 }, h.li + 1, 0) := by
    unfold publishS
    rw [hf]
  have HE := Lib.hid hE
  have hmr := hr m hmm
  have H1 := Lib.hid (H0.out.alloc 30 #[.string m.room, .string m.user, .int .i64 m.til, .int .i64 m.rights]).dn4
  clear hf hE hcell hmm hr hm2 e H0
  go_upto_region 5 with (go_at_call 45; refine hm.mono ?_; clear hm; rintro e w2 ⟨rfl, hw2⟩; subst w2)
  clear hcP hfP hlP z1 z2 z3 z4 hg
  obtain ⟨hcP, hfP, hlP⟩ := Blk.all (H1.out.at 3 rfl)
  obtain ⟨hc0, _, hl0⟩ := Blk.all (H1.out.at 4 rfl)
  by_cases hri : m.rights % 2 = 0
  · have HE2 := Lib.hid (HE.out.trans (if_pos hri))
    have hba := (rem1 hmr).trans (decide_eq_true hri)
    go_wp2
    go_returns
    refine Ret.mk (.refl I) H1.out.up4.drop ⟨rfl, ?_⟩
    rw [HE2.out]
    exact ⟨rfl, vT, rfl⟩
  have HE2 := Lib.hid (HE.out.trans (if_neg hri))
  have hba := (rem1 hmr).trans (decide_eq_false hri)
  clear HE hri hmr
  go_upto_region 7 with fail
  clear hba
  generalize hwa : World.alloc w _ = wa at *
  go_cut [40] (fun v wx => v = .bool (!wordB mid 1 32 || (kind != 1 && kind != 2)) ∧ wx = wa)
  case first =>
    cases hw : wordB mid 1 32
    · go_wp2_with (go_at_call 51; refine (wordR mid 1 32 _ hmd).mono ?_; rw [hw]; rintro e w1 ⟨rfl, hw'⟩; subst w1)
      go_meet
      exact ⟨by rw [hw]; rfl, rfl⟩
    · by_cases hk1 : kind = 1
      · subst hk1
        go_wp2_with (go_at_call 51; refine (wordR mid 1 32 _ hmd).mono ?_; rw [hw]; rintro e w1 ⟨rfl, hw'⟩; subst w1)
        go_meet
        exact ⟨by rw [hw]; rfl, rfl⟩
      · have hk1' : (kind == 1) = false := by simpa using hk1
        by_cases hk2 : kind = 2
        · subst hk2
          go_wp2_with (go_at_call 51; refine (wordR mid 1 32 _ hmd).mono ?_; rw [hw]; rintro e w1 ⟨rfl, hw'⟩; subst w1)
          go_meet
          exact ⟨by rw [hw]; rfl, rfl⟩
        · have hk2' : (kind == 2) = false := by simpa using hk2
          go_wp2_with (go_at_call 51; refine (wordR mid 1 32 _ hmd).mono ?_; rw [hw]; rintro e w1 ⟨rfl, hw'⟩; subst w1)
          go_meet
          exact ⟨by simp [hk1, hk2], rfl⟩
  case rest =>
    obtain ⟨rfl, rfl⟩ := hcut
    cases hbad : (!wordB mid 1 32 || (kind != 1 && kind != 2))
    rotate_left
    · have HE3 := Lib.hid (HE2.out.trans (if_pos (show wordB mid 1 32 = false ∨ (kind ≠ 1 ∧ kind ≠ 2) by simpa using hbad)))
      clear hbad HE2
      go_wp2
      go_returns
      refine Ret.mk (.refl I) H1.out.up4.drop ⟨rfl, ?_⟩
      rw [HE3.out]
      exact ⟨rfl, vT, rfl⟩
    have HE3 := Lib.hid (HE2.out.trans (if_neg (show ¬ (wordB mid 1 32 = false ∨ (kind ≠ 1 ∧ kind ≠ 2)) by
      intro hx
      have : (!wordB mid 1 32 || (kind != 1 && kind != 2)) = true := by simpa using hx
      rw [this] at hbad
      cases hbad)))
    clear hbad HE2
    clear hwa
    obtain ⟨A, c, rfl⟩ := own_form (show World.ownsRow _ 0 87 4 vT _ _ from H1.out.at 1 rfl)
    go_upto_region 10 with fail
    go_loopw [46] (fun iv wr => ∃ k : Nat, k ≤ h.ts.length ∧ iv = .int .i64 k ∧ wr = wc ∧ Hid (∀ j (hj : j < h.ts.length), j < k → (h.ts[j].member == id && h.ts[j].mid.toList == mid.toList) = false)) (fun iv _ => h.ts.length - (intOf iv).toNat)
    case atStart => exact ⟨0, by omega, rfl, rfl, fun j hj h => by omega⟩
    case round =>
      obtain ⟨k, hk, rfl, hwr, hno⟩ := hrel
      subst wr
      by_cases hkl : k < h.ts.length
      · obtain ⟨g2, rfl, _, hc2, hg2, hcell, _⟩ := flat_cell (f := trkC) (s := 4) (fun _ => rfl) H1.out.swap1 (by omega) (by decide)
        have x1 := hcell k hkl 1 (by decide)
        have x2 := hcell k hkl 2 (by decide)
        obtain ⟨x, hx⟩ : ∃ x, x = h.ts[k] := ⟨_, rfl⟩
        rw [← hx] at x1 x2
        simp only [trkC, List.getElem?_cons_succ, List.getElem?_cons_zero] at x1 x2
        have HX := Lib.hid hx
        clear hcell hx
        cases h1 : (x.member == id)
        · have HNO := Lib.hid (show ∀ j (hj : j < h.ts.length), j < k + 1 → (h.ts[j].member == id && h.ts[j].mid.toList == mid.toList) = false from fun j hj h2 => by
            by_cases e : j = k
            · subst e; rw [← HX.out, h1]; rfl
            · exact hno.out j hj (by omega))
          clear hno
          go_wp2
          go_roundw
          case rel => exact ⟨k + 1, by omega, by go_num, trivial, HNO⟩
          case measure => simp [intOf]; omega
        · cases h2 : (x.mid.toList == mid.toList)
          · have HNO := Lib.hid (show ∀ j (hj : j < h.ts.length), j < k + 1 → (h.ts[j].member == id && h.ts[j].mid.toList == mid.toList) = false from fun j hj h3 => by
              by_cases e : j = k
              · subst e; rw [← HX.out, h1, h2]; rfl
              · exact hno.out j hj (by omega))
            clear hno
            go_wp2
            go_roundw
            case rel => exact ⟨k + 1, by omega, by go_num, trivial, HNO⟩
            case measure => simp [intOf]; omega
          · have hany : h.ts.any (fun t => t.member == id && t.mid.toList == mid.toList) = true := List.any_eq_true.2 ⟨x, by rw [HX.out]; exact List.getElem_mem hkl, by rw [h1, h2]; rfl⟩
            have HE4 := Lib.hid (HE3.out.trans (if_pos hany))
            clear hany hno HE3
            go_wp2
            go_returns
            refine Ret.mk (.refl I) H1.out.up4.drop ⟨rfl, ?_⟩
            rw [HE4.out]
            exact ⟨rfl, _, rfl⟩
      · have hk2 : (h.ts.length : Int) ≤ k := by omega
        have hany : ¬ h.ts.any (fun t => t.member == id && t.mid.toList == mid.toList) = true := by
          intro ha
          obtain ⟨x, hx, he⟩ := List.any_eq_true.1 ha
          obtain ⟨j, hj, rfl⟩ := List.getElem_of_mem hx
          rw [hno.out j hj (by omega)] at he
          cases he
        have HE4 := Lib.hid (HE3.out.trans (if_neg hany))
        have htr := tracksR I _ wc p h _ _ vS m.room H1.out hlt hl hmem
        obtain ⟨tl, htl⟩ : ∃ tl, tl = (tracksS h m.room).length := ⟨_, rfl⟩
        have htl8 : tl ≤ 8 := by rw [htl]; exact h8 m.room
        rw [← htl] at HE4
        have HTL := Lib.hid htl
        clear hany hno HE3 hkl htl h8
        by_cases h8 : tl = 8
        · subst h8
          have HE5 := Lib.hid (HE4.out.trans (if_pos rfl))
          clear HE4
          go_wp2_with (go_at_call 44; refine htr.mono ?_; clear htr; rintro e w3 ⟨v, J, M', rfl, hle, hs3, rfl, B, cb, rfl, rfl⟩; rw [← HTL.out]; have H4 := Lib.hid hs3; clear hs3)
          go_returns
          refine Ret.mk (.refl I) H4.out.drop.up4.drop ⟨rfl, ?_⟩
          rw [HE5.out]
          exact ⟨rfl, _, rfl⟩
        have HE5 := Lib.hid (HE4.out.trans (if_neg h8))
        have h7' : (tl : Int) ≤ 7 := by omega
        clear HE4 h8 htl8
        go_upto_region 17 with (go_at_call 44; refine htr.mono ?_; clear htr; rintro e w3 ⟨v, J, M', rfl, hle, hs3, rfl, B, cb, rfl, rfl⟩; rw [← HTL.out]; have H4 := Lib.hid hs3.drop; clear hs3)
        clear h7' HTL H1 hcP hfP hlP hc0 hl0
        obtain ⟨hcP, hfP, hlP⟩ := Blk.all (H4.out.at 3 rfl)
        go_upto_region 18 with fail
        have hs0 := H4.out.set3 4 (.int .i64 (h.li + 1))
        generalize World.setCell _ _ _ = W at hs0 ⊢
        have hs : St I (houR p { h with li := h.li + 1 } (.slice (some ⟨g, 0, none⟩) h.ms.length cc) (.slice A h.ts.length c) vS (bk w.heap.size 30 #[.string m.room, .string m.user, .int .i64 m.til, .int .i64 m.rights] :: M)) (World.drew W) := hs0.drew
        clear hs0 H4 hcP hfP hlP
        obtain ⟨i5, hi, hz0, hz1, hz2⟩ := info_parts info87
        have hnp : (h.ts.length + 1) * 40 ≤ 140737488355328 := by omega
        refine wp_region_held_drew (S := (fun w' => w'.cell? ⟨p, 4, none⟩ = some (.int .i64 (h.li + 1)))) (by kernel_rfl) (by (try dsimp only); first | exact pKeepR (hs.at 3 rfl) | exact pKeepR ((hs.grow _).at 3 rfl)) (fun hHeld => ?_)
        generalize World.drew W = W at hs hHeld ⊢
        refine wpAnyH_take (i := 0) (oi := _) (v := ?_) rfl (by kernel_rfl) (by kernel_rfl) (by kernel_rfl) (fun _ _ _ h => h) (Or.inl ⟨by rfl, ?_⟩) (by assumption) ?_
        rotate_left
        · (intro w hSw; (try dsimp only at hSw); go_simp; try with_reducible rfl)
        try simp only [Act.put, List.getElem_toArray, List.getElem_cons_zero, List.getElem_cons_succ, List.setIfInBounds_toArray, List.set_cons_zero, List.set_cons_succ]
        refine wpAnyH_take (i := 1) (oi := _) (v := ?_) rfl (by kernel_rfl) (by kernel_rfl) (by kernel_rfl) (fun _ _ _ h => h) (Or.inl ⟨by rfl, ?_⟩) (by assumption) ?_
        rotate_left
        · (intro w hSw; (try dsimp only at hSw); go_simp; try with_reducible rfl)
        try simp only [Act.put, List.getElem_toArray, List.getElem_cons_zero, List.getElem_cons_succ, List.setIfInBounds_toArray, List.set_cons_zero, List.set_cons_succ]
        refine wpAnyH_take (i := 2) (oi := _) (v := ?_) rfl (by kernel_rfl) (by kernel_rfl) (by kernel_rfl) (fun _ _ _ h => h) (Or.inl ⟨by rfl, ?_⟩) (by assumption) ?_
        rotate_left
        · (intro w hSw; (try dsimp only at hSw); go_simp; try with_reducible rfl)
        try simp only [Act.put, List.getElem_toArray, List.getElem_cons_zero, List.getElem_cons_succ, List.setIfInBounds_toArray, List.set_cons_zero, List.set_cons_succ]
        refine wpAnyH_take (i := 3) (oi := _) (v := ?_) rfl (by kernel_rfl) (by kernel_rfl) (by kernel_rfl) (fun _ _ _ h => h) (Or.inl ⟨by rfl, ?_⟩) (by assumption) ?_
        rotate_left
        · (intro w hSw; (try dsimp only at hSw); go_simp; try with_reducible rfl)
        try simp only [Act.put, List.getElem_toArray, List.getElem_cons_zero, List.getElem_cons_succ, List.setIfInBounds_toArray, List.set_cons_zero, List.set_cons_succ]
        refine wpAnyH_take (i := 5) (oi := _) (v := ?_) rfl (by kernel_rfl) (by kernel_rfl) (by kernel_rfl) (fun _ _ _ h => h) (Or.inl ⟨by rfl, ?_⟩) (by assumption) ?_
        rotate_left
        · (intro w hSw; (try dsimp only at hSw); go_simp; try with_reducible rfl)
        try simp only [Act.put, List.getElem_toArray, List.getElem_cons_zero, List.getElem_cons_succ, List.setIfInBounds_toArray, List.set_cons_zero, List.set_cons_succ]
        refine wpAnyH_take (i := 6) (oi := _) (v := ?_) rfl (by kernel_rfl) (by kernel_rfl) (by kernel_rfl) (fun _ _ _ h => h) (Or.inl ⟨by rfl, ?_⟩) (by assumption) ?_
        rotate_left
        · (intro w hSw; (try dsimp only at hSw); go_simp; try with_reducible rfl)
        try simp only [Act.put, List.getElem_toArray, List.getElem_cons_zero, List.getElem_cons_succ, List.setIfInBounds_toArray, List.set_cons_zero, List.set_cons_succ]
        refine wpAnyH_take (i := 7) (oi := _) (v := ?_) rfl (by kernel_rfl) (by kernel_rfl) (by kernel_rfl) (fun _ _ _ h => h) (Or.inl ⟨by rfl, ?_⟩) (by assumption) ?_
        rotate_left
        · (intro w hSw; (try dsimp only at hSw); go_simp; try with_reducible rfl)
        try simp only [Act.put, List.getElem_toArray, List.getElem_cons_zero, List.getElem_cons_succ, List.setIfInBounds_toArray, List.set_cons_zero, List.set_cons_succ]
        refine wpAnyH_take (i := 8) (oi := _) (v := ?_) rfl (by kernel_rfl) (by kernel_rfl) (by kernel_rfl) (fun _ _ _ h => h) (Or.inl ⟨by rfl, ?_⟩) (by assumption) ?_
        rotate_left
        · (intro w hSw; (try dsimp only at hSw); go_simp; try with_reducible rfl)
        try simp only [Act.put, List.getElem_toArray, List.getElem_cons_zero, List.getElem_cons_succ, List.setIfInBounds_toArray, List.set_cons_zero, List.set_cons_succ]
        refine wpAnyH_take (i := 9) (oi := _) (v := ?_) rfl (by kernel_rfl) (by kernel_rfl) (by kernel_rfl) (fun _ _ _ h => h) (Or.inl ⟨by rfl, ?_⟩) (by assumption) ?_
        rotate_left
        · (intro w hSw; (try dsimp only at hSw); go_simp; try with_reducible rfl)
        try simp only [Act.put, List.getElem_toArray, List.getElem_cons_zero, List.getElem_cons_succ, List.setIfInBounds_toArray, List.set_cons_zero, List.set_cons_succ]
        refine wpAnyH_take (i := 10) (oi := _) (v := ?_) rfl (by kernel_rfl) (by kernel_rfl) (by kernel_rfl) (fun _ _ _ h => h) (Or.inl ⟨by rfl, ?_⟩) (by assumption) ?_
        rotate_left
        · (intro w hSw; (try dsimp only at hSw); go_simp; try with_reducible rfl)
        try simp only [Act.put, List.getElem_toArray, List.getElem_cons_zero, List.getElem_cons_succ, List.setIfInBounds_toArray, List.set_cons_zero, List.set_cons_succ]
        refine wpAnyH_take (i := 11) (oi := _) (v := ?_) rfl (by kernel_rfl) (by kernel_rfl) (by kernel_rfl) (fun _ _ _ h => h) (Or.inl ⟨by rfl, ?_⟩) (by assumption) ?_
        rotate_left
        · (intro w hSw; (try dsimp only at hSw); go_simp; try with_reducible rfl)
        try simp only [Act.put, List.getElem_toArray, List.getElem_cons_zero, List.getElem_cons_succ, List.setIfInBounds_toArray, List.set_cons_zero, List.set_cons_succ]
        refine wpAnyH_take (i := 12) (oi := _) (v := ?_) rfl (by kernel_rfl) (by kernel_rfl) (by kernel_rfl) (fun _ _ _ h => h) (Or.inl ⟨by rfl, ?_⟩) (by assumption) ?_
        rotate_left
        · (intro w hSw; (try dsimp only at hSw); go_simp; try with_reducible rfl)
        try simp only [Act.put, List.getElem_toArray, List.getElem_cons_zero, List.getElem_cons_succ, List.setIfInBounds_toArray, List.set_cons_zero, List.set_cons_succ]
        refine wpAnyH_ready (rs := [4, 13]) (by kernel_rfl) (by simp) ?_
        refine (AllReadyH.cons (o := _) rfl (fun K hK => ?_) (AllReadyH.cons (o := _) rfl (fun K hK => ?_) AllReadyH.nil))
        · skip
          have hcQ : W.cell? ⟨p, 1, none⟩ = some (.slice A h.ts.length c) := Blk.cell (hs.at 3 rfl) 1
          go_simp
          try clear hHeld
          refine hK.out _ _ (by (try dsimp only); first | exact pKeepR (hs.at 3 rfl) | exact pKeepR ((hs.grow _).at 3 rfl)) (fun hHeld => ?_)
          clear hK K
          try simp only [Act.put, List.getElem_toArray, List.getElem_cons_zero, List.getElem_cons_succ, List.setIfInBounds_toArray, List.set_cons_zero, List.set_cons_succ]
          clear hcQ
          refine wpAnyH_ready (rs := [13]) (by kernel_rfl) (by simp) ?_
          refine (AllReadyH.cons (o := _) rfl (fun K hK => ?_) AllReadyH.nil)
          have hsr := hs.litSrcV (P := Try.prog) (t := 69) (e := 87) (cs := #[.int .i64 (h.li + 1), .int .i64 id, .string mid, .int .i64 kind]) (n := 1) (size := 4) rfl (by decide) Try.underlying69 (by simp [Value.oneCell'])
          go_simp
          try clear hHeld
          refine hK.out _ _ (by (try dsimp only); first | exact pKeepR (hs.at 3 rfl) | exact pKeepR ((hs.grow _).at 3 rfl)) (fun hHeld => ?_)
          clear hK K
          try simp only [Act.put, List.getElem_toArray, List.getElem_cons_zero, List.getElem_cons_succ, List.setIfInBounds_toArray, List.set_cons_zero, List.set_cons_succ]
          generalize hw : World.alloc W _ = W at hHeld hsr ⊢
          replace hs := hs.growTo hw
          clear hw
          refine wpAnyH_ready (rs := [14]) (by kernel_rfl) (by simp) ?_
          refine (AllReadyH.cons (o := _) rfl (fun K hK => ?_) AllReadyH.nil)
          replace hs := hs.swap1
          refine step_append_src _ (by rfl) _ _ 69 69 (by rfl) 0 87 i5 (.agg #[.int .i64 0, .int .i64 0, .string ⟨#[]⟩, .int .i64 0]) 4 40 Try.underlying69 hi hz0 hz1 hz2 rfl _ h.ts.length (flat trkC h.ts) (by rfl) hs.head _ 1 _ (by rfl) hsr (by unfold maxLen; omega) (by omega) (Nat.zero_le _) ?_
          intro v' W hown' hgrow hat
          have hown2 : W.ownsRow 0 87 4 v' (h.ts.length + 1) (flat trkC (h.ts ++ [Trk.mk (h.li + 1) id mid kind])) := by simpa [flat_append, flat] using hown'
          obtain ⟨A10, c10, rfl⟩ := own_form hown2
          replace hs := (hs.grown hgrow hown2 hat).swap1
          clear hown' hown2 hgrow hat hsr
          try clear hHeld
          refine hK.out _ _ (by (try dsimp only); first | exact pKeepR (hs.at 3 rfl) | exact pKeepR ((hs.grow _).at 3 rfl)) (fun hHeld => ?_)
          clear hK K
          try simp only [Act.put, List.getElem_toArray, List.getElem_cons_zero, List.getElem_cons_succ, List.setIfInBounds_toArray, List.set_cons_zero, List.set_cons_succ]
          refine wpAnyH_take (i := 15) (oi := _) (v := ?_) rfl (by kernel_rfl) (by kernel_rfl) (by kernel_rfl) (fun _ _ _ h => h) (Or.inl ⟨by rfl, ?_⟩) (by assumption) ?_
          rotate_left
          · (intro w hSw; (try dsimp only at hSw); go_simp; try with_reducible rfl)
          try simp only [Act.put, List.getElem_toArray, List.getElem_cons_zero, List.getElem_cons_succ, List.setIfInBounds_toArray, List.set_cons_zero, List.set_cons_succ]
          refine wpAnyH_take (i := 16) (oi := _) (v := ?_) rfl (by kernel_rfl) (by kernel_rfl) (by kernel_rfl) (fun _ _ _ h => h) (Or.inl ⟨by rfl, ?_⟩) (by assumption) ?_
          rotate_left
          · (intro w hSw; (try dsimp only at hSw); go_simp; try with_reducible rfl)
          try simp only [Act.put, List.getElem_toArray, List.getElem_cons_zero, List.getElem_cons_succ, List.setIfInBounds_toArray, List.set_cons_zero, List.set_cons_succ]
          refine wpAnyH_ready (rs := [17]) (by kernel_rfl) (by simp) ?_
          refine (AllReadyH.cons (o := _) rfl (fun K hK => ?_) AllReadyH.nil)
          obtain ⟨hcQ, hfQ, hlQ⟩ := Blk.all (show Blk W p 71 _ from hs.at 3 rfl)
          go_simp
          replace hs := hs.set3 1 (.slice A10 (h.ts.length + 1) c10)
          try clear hHeld
          refine hK.out _ _ (by (try dsimp only); first | exact pKeepR (hs.at 3 rfl) | exact pKeepR ((hs.grow _).at 3 rfl)) (fun hHeld => ?_)
          clear hK K
          try simp only [Act.put, List.getElem_toArray, List.getElem_cons_zero, List.getElem_cons_succ, List.setIfInBounds_toArray, List.set_cons_zero, List.set_cons_succ]
          clear hcQ hfQ hlQ
          refine wpAnyH_done (by kernel_rfl) ?_ _
          generalize World.setCell _ _ _ = W at hs ⊢
          have HE6 := Lib.hid (show (h.ts ++ [Trk.mk (h.li + 1) id mid kind]).length = h.ts.length + 1 by simp)
          have hs' : St I (houR p { h with ts := h.ts ++ [⟨h.li + 1, id, mid, kind⟩], li := h.li + 1 } (.slice (some ⟨g, 0, none⟩) h.ms.length cc) (.slice A10 (h.ts.length + 1) c10) vS (bk w.heap.size 30 #[.string m.room, .string m.user, .int .i64 m.til, .int .i64 m.rights] :: M)) W := by (unfold houR; dsimp only; rw [HE6.out]; exact hs)
          have HS := Lib.hid hs'
          have hcl : W.cell? ⟨p, 4, none⟩ = some (.int .i64 (h.li + 1)) := Blk.cell (hs'.at 3 rfl) 4
          clear hs hs'
          go_wp2
          go_returns
          refine Ret.mk (.refl I) HS.out.up4.drop ⟨rfl, ?_⟩
          rw [HE5.out]
          exact ⟨rfl, _, rfl⟩
        · skip
          have hsr := hs.litSrcV (P := Try.prog) (t := 69) (e := 87) (cs := #[.int .i64 (h.li + 1), .int .i64 id, .string mid, .int .i64 kind]) (n := 1) (size := 4) rfl (by decide) Try.underlying69 (by simp [Value.oneCell'])
          go_simp
          try clear hHeld
          refine hK.out _ _ (by (try dsimp only); first | exact pKeepR (hs.at 3 rfl) | exact pKeepR ((hs.grow _).at 3 rfl)) (fun hHeld => ?_)
          clear hK K
          try simp only [Act.put, List.getElem_toArray, List.getElem_cons_zero, List.getElem_cons_succ, List.setIfInBounds_toArray, List.set_cons_zero, List.set_cons_succ]
          generalize hw : World.alloc W _ = W at hHeld hsr ⊢
          replace hs := hs.growTo hw
          clear hw
          refine wpAnyH_ready (rs := [4]) (by kernel_rfl) (by simp) ?_
          refine (AllReadyH.cons (o := _) rfl (fun K hK => ?_) AllReadyH.nil)
          have hcQ : W.cell? ⟨p, 1, none⟩ = some (.slice A h.ts.length c) := Blk.cell (hs.at 3 rfl) 1
          go_simp
          try clear hHeld
          refine hK.out _ _ (by (try dsimp only); first | exact pKeepR (hs.at 3 rfl) | exact pKeepR ((hs.grow _).at 3 rfl)) (fun hHeld => ?_)
          clear hK K
          try simp only [Act.put, List.getElem_toArray, List.getElem_cons_zero, List.getElem_cons_succ, List.setIfInBounds_toArray, List.set_cons_zero, List.set_cons_succ]
          clear hcQ
          refine wpAnyH_ready (rs := [14]) (by kernel_rfl) (by simp) ?_
          refine (AllReadyH.cons (o := _) rfl (fun K hK => ?_) AllReadyH.nil)
          replace hs := hs.swap1
          refine step_append_src _ (by rfl) _ _ 69 69 (by rfl) 0 87 i5 (.agg #[.int .i64 0, .int .i64 0, .string ⟨#[]⟩, .int .i64 0]) 4 40 Try.underlying69 hi hz0 hz1 hz2 rfl _ h.ts.length (flat trkC h.ts) (by rfl) hs.head _ 1 _ (by rfl) hsr (by unfold maxLen; omega) (by omega) (Nat.zero_le _) ?_
          intro v' W hown' hgrow hat
          have hown2 : W.ownsRow 0 87 4 v' (h.ts.length + 1) (flat trkC (h.ts ++ [Trk.mk (h.li + 1) id mid kind])) := by simpa [flat_append, flat] using hown'
          obtain ⟨A10, c10, rfl⟩ := own_form hown2
          replace hs := (hs.grown hgrow hown2 hat).swap1
          clear hown' hown2 hgrow hat hsr
          try clear hHeld
          refine hK.out _ _ (by (try dsimp only); first | exact pKeepR (hs.at 3 rfl) | exact pKeepR ((hs.grow _).at 3 rfl)) (fun hHeld => ?_)
          clear hK K
          try simp only [Act.put, List.getElem_toArray, List.getElem_cons_zero, List.getElem_cons_succ, List.setIfInBounds_toArray, List.set_cons_zero, List.set_cons_succ]
          refine wpAnyH_take (i := 15) (oi := _) (v := ?_) rfl (by kernel_rfl) (by kernel_rfl) (by kernel_rfl) (fun _ _ _ h => h) (Or.inl ⟨by rfl, ?_⟩) (by assumption) ?_
          rotate_left
          · (intro w hSw; (try dsimp only at hSw); go_simp; try with_reducible rfl)
          try simp only [Act.put, List.getElem_toArray, List.getElem_cons_zero, List.getElem_cons_succ, List.setIfInBounds_toArray, List.set_cons_zero, List.set_cons_succ]
          refine wpAnyH_take (i := 16) (oi := _) (v := ?_) rfl (by kernel_rfl) (by kernel_rfl) (by kernel_rfl) (fun _ _ _ h => h) (Or.inl ⟨by rfl, ?_⟩) (by assumption) ?_
          rotate_left
          · (intro w hSw; (try dsimp only at hSw); go_simp; try with_reducible rfl)
          try simp only [Act.put, List.getElem_toArray, List.getElem_cons_zero, List.getElem_cons_succ, List.setIfInBounds_toArray, List.set_cons_zero, List.set_cons_succ]
          refine wpAnyH_ready (rs := [17]) (by kernel_rfl) (by simp) ?_
          refine (AllReadyH.cons (o := _) rfl (fun K hK => ?_) AllReadyH.nil)
          obtain ⟨hcQ, hfQ, hlQ⟩ := Blk.all (show Blk W p 71 _ from hs.at 3 rfl)
          go_simp
          replace hs := hs.set3 1 (.slice A10 (h.ts.length + 1) c10)
          try clear hHeld
          refine hK.out _ _ (by (try dsimp only); first | exact pKeepR (hs.at 3 rfl) | exact pKeepR ((hs.grow _).at 3 rfl)) (fun hHeld => ?_)
          clear hK K
          try simp only [Act.put, List.getElem_toArray, List.getElem_cons_zero, List.getElem_cons_succ, List.setIfInBounds_toArray, List.set_cons_zero, List.set_cons_succ]
          clear hcQ hfQ hlQ
          refine wpAnyH_done (by kernel_rfl) ?_ _
          generalize World.setCell _ _ _ = W at hs ⊢
          have HE6 := Lib.hid (show (h.ts ++ [Trk.mk (h.li + 1) id mid kind]).length = h.ts.length + 1 by simp)
          have hs' : St I (houR p { h with ts := h.ts ++ [⟨h.li + 1, id, mid, kind⟩], li := h.li + 1 } (.slice (some ⟨g, 0, none⟩) h.ms.length cc) (.slice A10 (h.ts.length + 1) c10) vS (bk w.heap.size 30 #[.string m.room, .string m.user, .int .i64 m.til, .int .i64 m.rights] :: M)) W := by (unfold houR; dsimp only; rw [HE6.out]; exact hs)
          have HS := Lib.hid hs'
          have hcl : W.cell? ⟨p, 4, none⟩ = some (.int .i64 (h.li + 1)) := Blk.cell (hs'.at 3 rfl) 4
          clear hs hs'
          go_wp2
          go_returns
          refine Ret.mk (.refl I) HS.out.up4.drop ⟨rfl, ?_⟩
          rw [HE5.out]
          exact ⟨rfl, _, rfl⟩
end Go.Proofs.Ytbaobonlolbnpaa
