/- rostrumref23.House.Subscribe. -/
import Derived.Test.YtbaobonlolbnpaaRpC
namespace Go.Proofs.Ytbaobonlolbnpaa
open Go.RowKit
set_option linter.unusedSimpArgs false

theorem rem3 {r : Int} : (r / 2 % 2 == 0) = decide (r / 2 % 2 = 0) := rfl
def HR (p : Nat) (M : List Res) (r : Ho × Int) (v : Value) (M' : List Res) : Prop := v = .int .i64 r.2 ∧ ∃ vM' vT' vS', M' = houR p r.1 vM' vT' vS' M
set_option maxRecDepth 8000 in
set_option maxHeartbeats 8000000 in
theorem subscribeR (I : Img) (M : List Res) (w : World) (p : Nat) (h : Ho) (vM vT vS : Value) (id track layer : Int) (hst : St I (houR p h vM vT vS M) w) (hlm : h.ms.length ≤ 1000000) (hlt : h.ts.length ≤ 1000000) (hls : h.ss.length ≤ 1000000) (hr : ∀ m ∈ h.ms, 0 ≤ m.rights ∧ m.rights ≤ 7) (hmem : ∀ t ∈ h.ts, mem? h t.member ≠ none) (h16 : cntM h.ss id ≤ 16) :
    Calls Try.prog 32 #[.pointer (some ⟨p, 0, none⟩), .int .i64 id, .int .i64 track, .int .i64 layer] w (Ret I (fun v J M' => I = J ∧ HR p M (subscribeS h id track layer) v M')) := by
  obtain ⟨C, cc, rfl⟩ := own_form (show w.ownsRow 0 90 5 vM _ _ from hst.at 0 rfl)
  obtain ⟨A, c, rfl⟩ := own_form (show w.ownsRow 0 87 4 vT _ _ from hst.at 1 rfl)
  have hm := memR I M w p h _ _ vS id hst hlm
  have ht := trkR I M w p h _ _ vS track hst hlt
  obtain ⟨hcP, hfP, hlP⟩ := Blk.all (hst.at 3 rfl)
  have H1 := Lib.hid hst
  clear hst
  go_enter Try.func32, Try.ntmps32
  rcases idx_mem h id with ⟨e, hf⟩ | ⟨i, hi, e, hf⟩
  · rw [e] at hm
    have HE := Lib.hid (show subscribeS h id track layer = (h, 7) by unfold subscribeS; rw [hf])
    obtain ⟨tv, htv⟩ : ∃ tv, tv = idx (fun x : Trk => x.id == track) h.ts := ⟨_, rfl⟩
    rw [← htv] at ht
    clear hf e htv
    go_wp2_with (first | (go_at_call 45; refine hm.mono ?_; clear hm; rintro e w2 ⟨rfl, hw2⟩; subst w2) | (go_at_call 52; refine ht.mono ?_; clear ht; rintro e w2 ⟨rfl, hw2⟩; subst w2))
    go_returns
    refine Ret.mk (.refl I) H1.out ⟨rfl, ⟨by rw [HE.out]; rfl, _, _, vS, by rw [HE.out]⟩⟩
  rw [e] at hm
  rcases idx_trk h track with ⟨e3, hf3⟩ | ⟨i3, hi3, e3, hf3⟩
  · rw [e3] at ht
    have HE := Lib.hid (show subscribeS h id track layer = (h, 7) by unfold subscribeS; rw [hf, hf3])
    clear hf hf3 e e3
    go_wp2_with (first | (go_at_call 45; refine hm.mono ?_; clear hm; rintro e w2 ⟨rfl, hw2⟩; subst w2) | (go_at_call 52; refine ht.mono ?_; clear ht; rintro e w2 ⟨rfl, hw2⟩; subst w2))
    go_returns
    refine Ret.mk (.refl I) H1.out ⟨rfl, ⟨by rw [HE.out]; rfl, _, _, vS, by rw [HE.out]⟩⟩
  rw [e3] at ht
  have hmm : h.ms[i] ∈ h.ms := List.getElem_mem hi
  have htm : h.ts[i3] ∈ h.ts := List.getElem_mem hi3
  have hmx := hmem _ htm
  obtain ⟨g, rfl, _, hcc, hg, hcell, _⟩ := flat_cell (f := memC) (s := 5) (fun _ => rfl) H1.out (by omega) (by decide)
  obtain ⟨g3, rfl, _, hcc3, hg3, hcell3, _⟩ := flat_cell (f := trkC) (s := 4) (fun _ => rfl) H1.out.swap1 (by omega) (by decide)
  have z1 := hcell i hi 1 (by decide)
  have z2 := hcell i hi 2 (by decide)
  have z3 := hcell i hi 3 (by decide)
  have z4 := hcell i hi 4 (by decide)
  have x1 := hcell3 i3 hi3 1 (by decide)
  obtain ⟨m, hme⟩ : ∃ m, m = h.ms[i] := ⟨_, rfl⟩
  obtain ⟨t, hte⟩ : ∃ t, t = h.ts[i3] := ⟨_, rfl⟩
  rw [← hme] at z1 z2 z3 z4 hf hmm
  rw [← hte] at x1 hf3 hmx
  simp only [memC, trkC, List.getElem?_cons_succ, List.getElem?_cons_zero] at z1 z2 z3 z4 x1
  obtain ⟨m2, hm2⟩ : ∃ m2, mem? h t.member = some m2 := by
    cases e : mem? h t.member with
    | none => exact absurd e hmx
    | some m => exact ⟨m, rfl⟩
  have hro := roomR I M w p h _ _ vS t.member H1.out hlm
  rw [show roomS h t.member = (m2.room, 0) by unfold roomS; rw [hm2]] at hro
  have hE : subscribeS h id track layer = if inRoom h m.room t = false then (h, 7)
    else if m.rights / 2 % 2 = 0 then (h, 10)
    else if t.member = id ∨ layer < 0 ∨ 3 ≤ layer then (h, 1)
    else if h.ss.any (fun s => s.member == id && s.track == track) = true then ({ h with ss := setL (fun s => s.member == id && s.track == track) (fun s => { s with layer := layer }) h.ss }, 0)
    else if cntM h.ss id = 16 then (h, 6)
    else ({ h with ss := h.ss ++ [⟨id, track, layer⟩] }, 0) := by
    unfold subscribeS
    rw [hf, hf3]
  rw [show inRoom h m.room t = (m2.room.toList == m.room.toList) by unfold inRoom; rw [hm2]] at hE
  have HE := Lib.hid hE
  have hmr := hr m hmm
  have H2 := Lib.hid (H1.out.alloc 30 #[.string m.room, .string m.user, .int .i64 m.til, .int .i64 m.rights]).dn4
  have HTE := Lib.hid hte
  clear hf hf3 hcell hcell3 hmm htm hmx hm2 hE hme hte e e3
  go_upto_region 6 with (first | (go_at_call 45; refine hm.mono ?_; clear hm; rintro e w2 ⟨rfl, hw2⟩; subst w2) | (go_at_call 52; refine ht.mono ?_; clear ht; rintro e w2 ⟨rfl, hw2⟩; subst w2) | (go_at_call 20; refine hro.mono ?_; clear hro; rintro e w2 ⟨rfl, hw2⟩; subst w2))
  clear z1 z2 z3 z4 x1 hcP hfP hlP H1 hg hg3
  generalize hwa : World.alloc w _ = wa at *
  clear hwa
  obtain ⟨hcP, hfP, hlP⟩ := Blk.all (H2.out.at 3 rfl)
  obtain ⟨hc0, _, hl0⟩ := Blk.all (H2.out.at 4 rfl)
  cases hroom : (m2.room.toList == m.room.toList)
  · have HE2 := Lib.hid (HE.out.trans (if_pos hroom))
    go_wp2
    go_returns
    refine Ret.mk (.refl I) H2.out.up4.drop ⟨rfl, ⟨by rw [HE2.out]; rfl, _, _, vS, by rw [HE2.out]⟩⟩
  have HE2 := Lib.hid (HE.out.trans (if_neg (by rw [hroom]; simp)))
  clear HE
  by_cases hri : m.rights / 2 % 2 = 0
  · have HE3 := Lib.hid (HE2.out.trans (if_pos hri))
    have hba := rem3.trans (decide_eq_true hri)
    go_wp2
    go_returns
    refine Ret.mk (.refl I) H2.out.up4.drop ⟨rfl, ⟨by rw [HE3.out]; rfl, _, _, vS, by rw [HE3.out]⟩⟩
  have HE3 := Lib.hid (HE2.out.trans (if_neg hri))
  have hba := rem3.trans (decide_eq_false hri)
  clear HE2 hri
  obtain ⟨g3', e3, _, hcc3', hg3, hcell3, _⟩ := flat_cell (f := trkC) (s := 4) (fun _ => rfl) H2.out.swap1 (by omega) (by decide)
  injection e3 with e3
  injection e3 with e3
  subst e3
  have x1 := hcell3 i3 hi3 1 (by decide)
  rw [← HTE.out] at x1
  simp only [trkC, List.getElem?_cons_succ, List.getElem?_cons_zero] at x1
  clear hcell3 HTE hcc3'
  go_upto_region 10 with fail
  clear hba hroom
  go_cut [75] (fun v wx => v = .bool (t.member == id || (decide (layer < 0) || decide (3 ≤ layer))) ∧ wx = wa)
  case first =>
    cases h1 : (t.member == id)
    · by_cases h2 : layer < 0
      · go_wp2
        go_meet
        exact ⟨by simp [h2], rfl⟩
      · by_cases h3 : 3 ≤ layer
        · go_wp2
          go_meet
          exact ⟨by simp [h3], rfl⟩
        · have h2' : 0 ≤ layer := by omega
          have h3' : layer < 3 := by omega
          go_wp2
          go_meet
          exact ⟨by rw [h1]; simp; omega, rfl⟩
    · go_wp2
      go_meet
      exact ⟨by rw [h1]; rfl, rfl⟩
  case rest =>
    obtain ⟨rfl, rfl⟩ := hcut
    clear x1 hg3 hl0 hc0
    cases hbad : (t.member == id || (decide (layer < 0) || decide (3 ≤ layer)))
    rotate_left
    · have HE4 := Lib.hid (HE3.out.trans (if_pos (show t.member = id ∨ layer < 0 ∨ 3 ≤ layer by simpa using hbad)))
      clear hbad HE3
      go_wp2
      go_returns
      refine Ret.mk (.refl I) H2.out.up4.drop ⟨rfl, ⟨by rw [HE4.out]; rfl, _, _, vS, by rw [HE4.out]⟩⟩
    have HE4 := Lib.hid (HE3.out.trans (if_neg (show ¬ (t.member = id ∨ layer < 0 ∨ 3 ≤ layer) by
      intro hx
      have : (t.member == id || (decide (layer < 0) || decide (3 ≤ layer))) = true := by simpa using hx
      rw [this] at hbad
      cases hbad)))
    clear hbad HE3
    obtain ⟨B, cb, rfl⟩ := own_form (show World.ownsRow _ 0 88 3 vS _ _ from H2.out.at 2 rfl)
    go_upto_region 14 with fail
    go_loopw [14, 81] (fun nv iv wr => ∃ (k n : Nat), k ≤ h.ss.length ∧ n ≤ k ∧ iv = .int .i64 k ∧ nv = .int .i64 n ∧ wr = wc ∧ Hid (n = cntM (h.ss.take k) id ∧ ∀ j (hj : j < h.ss.length), j < k → (h.ss[j].member == id && h.ss[j].track == track) = false)) (fun _ iv _ => h.ss.length - (intOf iv).toNat)
    case atStart => exact ⟨0, 0, by omega, Nat.le_refl _, rfl, rfl, rfl, rfl, fun j hj h => by omega⟩
    case round =>
      obtain ⟨k, n, hk, hnk, rfl, rfl, hwr, hh⟩ := hrel
      subst wr
      by_cases hlt : k < h.ss.length
      · obtain ⟨g5, rfl, _, hcc, hg, hcell, hfr⟩ := flat_cell (f := sbC) (s := 3) (fun _ => rfl) H2.out.swap2 (by omega) (by decide)
        have z0 := hcell k hlt 0 (by decide)
        have z1 := hcell k hlt 1 (by decide)
        have z2 := hcell k hlt 2 (by decide)
        have hf2 := hfr (k * 3 + 2)
        rw [Nat.add_zero] at z0
        obtain ⟨x, hx⟩ : ∃ x, x = h.ss[k] := ⟨_, rfl⟩
        rw [← hx] at z0 z1 z2
        simp only [sbC, List.getElem?_cons_succ, List.getElem?_cons_zero] at z0 z1 z2
        have hnx : cntM (h.ss.take (k + 1)) id = n + (if x.member == id then 1 else 0) := by
          unfold cntM
          rw [List.take_succ_eq_append_getElem hlt, List.filter_append, List.length_append, ← hx, hh.out.1]
          unfold cntM
          congr 1
          simp only [List.filter_cons, List.filter_nil]
          split <;> rfl
        have HX := Lib.hid hx
        have HN := Lib.hid hnx
        clear hcell hfr hx hnx
        cases h1 : (x.member == id)
        · have HH2 := Lib.hid (show n = cntM (h.ss.take (k + 1)) id ∧ ∀ j (hj : j < h.ss.length), j < k + 1 → (h.ss[j].member == id && h.ss[j].track == track) = false from ⟨by rw [HN.out, h1]; rfl, fun j hj h2 => by
            by_cases e : j = k
            · subst e; rw [← HX.out, h1]; rfl
            · exact hh.out.2 j hj (by omega)⟩)
          clear hh HN
          go_wp2
          go_roundw
          case rel => exact ⟨k + 1, n, by omega, by omega, by go_num, rfl, trivial, HH2.out⟩
          case measure => simp [intOf]; omega
        · cases h2 : (x.track == track)
          · have HH2 := Lib.hid (show n + 1 = cntM (h.ss.take (k + 1)) id ∧ ∀ j (hj : j < h.ss.length), j < k + 1 → (h.ss[j].member == id && h.ss[j].track == track) = false from ⟨by rw [HN.out, h1]; rfl, fun j hj h3 => by
              by_cases e : j = k
              · subst e; rw [← HX.out, h1, h2]; rfl
              · exact hh.out.2 j hj (by omega)⟩)
            clear hh HN
            go_wp2
            go_roundw
            case rel => exact ⟨k + 1, n + 1, by omega, by omega, by go_num, by go_num, trivial, HH2.out⟩
            case measure => simp [intOf]; omega
          · have hpk : (h.ss[k].member == id && h.ss[k].track == track) = true := by rw [← HX.out, h1, h2]; rfl
            have hany : h.ss.any (fun s => s.member == id && s.track == track) = true := List.any_eq_true.2 ⟨_, List.getElem_mem hlt, hpk⟩
            have hset := setL_hit (p := fun s => s.member == id && s.track == track) (f := fun s : Sb => { s with layer := layer }) h.ss k hlt hpk hh.out.2
            have hE5 := HE4.out.trans (if_pos hany)
            rw [hset, ← HX.out] at hE5
            have HE5 := Lib.hid hE5
            have hflat := flat_set (f := sbC) (s := 3) (fun _ => rfl) { x with layer := layer } (.int .i64 layer) h.ss k 2 hlt (by decide) (by rw [← HX.out]; rfl)
            have hs5 := (H2.out.swap2.rowCellSet (k * 3 + 2) (.int .i64 layer) (by rw [flat_len (s := 3) (fun _ => rfl)]; omega)).swap2
            rw [hflat] at hs5
            have HS5 := Lib.hid hs5
            clear hpk hany hset hE5 hflat hs5 hh HN HE4
            go_wp2
            go_returns
            refine Ret.mk (.refl I) HS5.out.up4.drop ⟨rfl, ⟨by rw [HE5.out]; rfl, _, _, _, by rw [HE5.out]; unfold houR; rw [List.length_set]⟩⟩
      · have hk' : k = h.ss.length := by omega
        have hk2 : (h.ss.length : Int) ≤ k := by omega
        have hno : ¬ h.ss.any (fun s => s.member == id && s.track == track) = true := by
          intro ha
          obtain ⟨x, hx, he⟩ := List.any_eq_true.1 ha
          obtain ⟨j, hj, rfl⟩ := List.getElem_of_mem hx
          rw [hh.out.2 j hj (by omega)] at he
          cases he
        have hE5 := HE4.out.trans (if_neg hno)
        have hcn := hh.out.1
        rw [hk', List.take_length] at hcn
        rw [← hcn] at hE5 h16
        have HE5 := Lib.hid hE5
        clear hlt hk' hno hE5 hcn hh HE4
        by_cases hn16 : n = 16
        · subst hn16
          have HE6 := Lib.hid (HE5.out.trans (if_pos rfl))
          clear HE5
          go_wp2
          go_returns
          refine Ret.mk (.refl I) H2.out.up4.drop ⟨rfl, ⟨by rw [HE6.out]; rfl, _, _, _, by rw [HE6.out]⟩⟩
        · have hn15 : (n : Int) ≤ 15 := by omega
          have HE6 := Lib.hid (HE5.out.trans (if_neg hn16))
          obtain ⟨i3, hi, hz0, hz1, hz2⟩ := info_parts info88
          have hs0 := H2.out.litSrcV (P := Try.prog) (t := 56) (e := 88) (cs := #[.int .i64 id, .int .i64 track, .int .i64 layer]) (n := 1) (size := 3) rfl (by decide) Try.underlying56 (by simp [Value.oneCell'])
          have Hs := Lib.hid hs0
          have HG := Lib.hid ((H2.out.grow (.cells #[.int .i64 id, .int .i64 track, .int .i64 layer] 88)).swap2)
          clear HE5 hn16 hs0 H2
          go_wp2_with (at_builtin; refine wpList_append_src _ rfl _ _ 56 56 rfl 0 88 i3 (.agg #[.int .i64 0, .int .i64 0, .int .i64 0]) 3 24 Try.underlying56 hi hz0 hz1 hz2 rfl _ h.ss.length (flat sbC h.ss) rfl HG.out.head _ 1 _ rfl Hs.out (by unfold maxLen; omega) (by omega) (Nat.zero_le _) ?_)
          intro v' w' hown hgrow hat
          have hown2 : w'.ownsRow 0 88 3 v' (h.ss.length + 1) (flat sbC (h.ss ++ [Sb.mk id track layer])) := by simpa [flat_append, flat] using hown
          have hs3 := (HG.out.grown hgrow hown2 (by simpa using hat)).swap2
          obtain ⟨B', c', rfl⟩ := own_form hown2
          clear hown hown2 hgrow hat HG Hs hcP hfP hlP
          obtain ⟨hcP, hfP, hlP⟩ := Blk.all (hs3.at 3 rfl)
          have hs4 := hs3.set3 2 (.slice B' (h.ss.length + 1) c')
          have HL := Lib.hid (show (h.ss ++ [Sb.mk id track layer]).length = h.ss.length + 1 by simp)
          have HS4 := Lib.hid hs4
          clear hs3 hs4
          go_wp2
          go_returns
          refine Ret.mk (.refl I) HS4.out.up4.drop ⟨rfl, ⟨by rw [HE6.out]; rfl, _, _, _, by rw [HE6.out]; unfold houR; dsimp only; rw [HL.out]; rfl⟩⟩
end Go.Proofs.Ytbaobonlolbnpaa
