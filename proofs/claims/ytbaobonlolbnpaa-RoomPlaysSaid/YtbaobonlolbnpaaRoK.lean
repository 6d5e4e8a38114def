/- room.House: Subscribe. -/
import Derived.Test.YtbaobonlolbnpaaRoI
namespace Go.Proofs.Ytbaobonlolbnpaa
open Go.RowKit
set_option linter.unusedSimpArgs false

def setL {α : Type} (p : α → Bool) (f : α → α) : List α → List α
  | [] => []
  | x :: r => if p x then f x :: r else x :: setL p f r
theorem setL_hit {α : Type} {p : α → Bool} {f : α → α} : ∀ (l : List α) (i : Nat) (hi : i < l.length), p l[i] = true → (∀ j (hj : j < l.length), j < i → p l[j] = false) → setL p f l = l.set i (f l[i])
  | x :: r, 0, _, h, _ => by simp only [List.getElem_cons_zero] at h; simp [setL, h]
  | x :: r, i + 1, hi, h, hno => by
    have h0 := hno 0 (by simp) (by omega)
    simp only [List.getElem_cons_zero] at h0
    have ih := setL_hit (f := f) r i (by simpa using hi) (by simpa using h) (fun j hj hji => hno (j + 1) (Nat.succ_lt_succ hj) (by omega))
    simp [setL, h0, ih]
theorem setL_len {α : Type} (p : α → Bool) (f : α → α) : ∀ l : List α, (setL p f l).length = l.length
  | [] => rfl
  | x :: r => by
    unfold setL
    split
    · rfl
    · simp [setL_len p f r]
def cntM (l : List Sb) (id : Int) : Nat := (l.filter (fun s => s.member == id)).length
def subscribeS (h : Ho) (id track layer : Int) : Ho × Int :=
  match mem? h id, trk? h track with
  | some m, some t =>
    if inRoom h m.room t = false then (h, 7)
    else if m.rights / 2 % 2 = 0 then (h, 10)
    else if t.member = id ∨ layer < 0 ∨ 3 ≤ layer then (h, 1)
    else if h.ss.any (fun s => s.member == id && s.track == track) = true then ({ h with ss := setL (fun s => s.member == id && s.track == track) (fun s => { s with layer := layer }) h.ss }, 0)
    else if cntM h.ss id = 16 then (h, 6)
    else ({ h with ss := h.ss ++ [⟨id, track, layer⟩] }, 0)
  | _, _ => (h, 7)
theorem St.rowCellSet {I : Img} {M : List Res} {w : World} {e s n c g : Nat} {xs : List Value} (h : St I (row e s (.slice (some ⟨g, 0, none⟩) n c) n xs :: M) w) (k : Nat) (v : Value) (h0 : 0 < xs.length) :
    St I (row e s (.slice (some ⟨g, 0, none⟩) n c) n (xs.set k v) :: M) (w.setCell ⟨g, k, none⟩ v) := by
  obtain ⟨g', cur, e1, _, hlc, hcm, hcs, hct, hs⟩ := h.rowBk h0
  injection e1 with e1
  injection e1 with e1
  subst e1
  exact (hs.set k v).bkRow hlc hcm (by rw [Array.size_setIfInBounds]; exact hcs) (by rw [Array.toList_setIfInBounds, List.take_set, hct])
theorem flat_set {α : Type} {f : α → List Value} {s : Nat} (hs : ∀ x, (f x).length = s) (y : α) (v : Value) : ∀ (l : List α) (i j : Nat) (hi : i < l.length), j < s → f y = (f l[i]).set j v → (flat f l).set (i * s + j) v = flat f (l.set i y)
  | x :: r, 0, j, _, hj, h => by
    simp only [List.getElem_cons_zero] at h
    rw [Nat.zero_mul, Nat.zero_add, List.set_cons_zero, flat, flat, List.set_append_left _ _ (by rw [hs]; exact hj), h]
  | x :: r, i + 1, j, hi, hj, h => by
    simp only [List.getElem_cons_succ] at h
    have ih := flat_set hs y v r i j (by simpa using hi) hj h
    rw [List.set_cons_succ, flat, flat, ← ih, List.set_append_right _ _ (by rw [hs, Nat.add_mul]; omega), hs]
    congr 2
    rw [Nat.add_mul]
    omega
theorem memAt.one {h : Ho} {vM : Value} {id : Int} {r r' : Option Addr} (a : memAt h vM id r) (b : memAt h vM id r') : r = r' := by
  rcases a with ⟨rfl, hno⟩ | ⟨i, hi, hid, hf, g, c, rfl, rfl⟩
  · rcases b with ⟨rfl, _⟩ | ⟨i, hi, hid, _⟩
    · rfl
    · exact absurd hid (hno i hi)
  · rcases b with ⟨rfl, hno⟩ | ⟨j, hj, hjd, hg, g2, c2, e, rfl⟩
    · exact absurd hid (hno i hi)
    · injection e with e _ _
      injection e with e
      injection e with e
      subst e
      rcases Nat.lt_trichotomy i j with h1 | h1 | h1
      · exact absurd hid (hg i hi h1)
      · rw [h1]
      · exact absurd hjd (hf j hj h1)
theorem memAt_ex {I : Img} {M : List Res} {w : World} {h : Ho} {vM : Value} {A : Option Addr} {n c : Nat} (hv : vM = .slice A n c) (hst : St I (row 73 5 vM h.ms.length (flat memC h.ms) :: M) w) (id : Int) : ∃ r, memAt h vM id r := by
  subst hv
  rcases idx_ways (fun t : Mem => t.id == id) h.ms with ⟨_, hno⟩ | ⟨i, hi, _, h1, h2⟩
  · exact ⟨none, .inl ⟨rfl, fun i hi => by simpa using hno _ (List.getElem_mem hi)⟩⟩
  · obtain ⟨g, rfl, rfl, _⟩ := flat_cell (f := memC) (s := 5) (fun _ => rfl) hst (by omega) (by decide)
    exact ⟨some ⟨g, i * 5, none⟩, .inr ⟨i, hi, by simpa using h1, fun j hj hji => by simpa using h2 j hj hji, g, c, rfl, rfl⟩⟩
set_option maxRecDepth 8000 in
set_option maxHeartbeats 8000000 in
theorem subscribeC (I : Img) (M : List Res) (w : World) (p : Nat) (h : Ho) (vM vT vS : Value) (id track layer : Int) (hst : St I (hou p h vM vT vS M) w) (hlm : h.ms.length ≤ 1000000) (hlt : h.ts.length ≤ 1000000) (hls : h.ss.length ≤ 1000000) (hr : ∀ m ∈ h.ms, 0 ≤ m.rights ∧ m.rights ≤ 7) (hmem : ∀ t ∈ h.ts, mem? h t.member ≠ none) :
    Calls Try.prog 26 #[.pointer (some ⟨p, 0, none⟩), .int .i64 id, .int .i64 track, .int .i64 layer] w (Ret I (fun v J M' => I = J ∧ HQ p M (subscribeS h id track layer) v M')) := by
  have hm := memberC I _ _ p h vM vT vS id hst (by omega)
  have ht := trackC I _ _ p h vM vT vS track hst (by omega)
  obtain ⟨C, cc, hvM⟩ := own_form (show World.ownsRow _ 0 73 5 vM _ _ from hst.at 0 rfl)
  have H1 := Lib.hid hst
  clear hst
  go_enter Try.func26, Try.ntmps26
  go_upto_region 4 with (first | (go_at_call 34; refine hm.mono ?_; rintro e w' ⟨hw', rm, rfl, hr2⟩; subst w') | (go_at_call 37; refine ht.mono ?_; rintro e w' ⟨hw', rt, rfl, hr3⟩; subst w'))
  clear hm ht
  rcases hr2.find H1.out with ⟨hf, rfl⟩ | ⟨m, g, o, hf, rfl, hg, hcell⟩
  · have HE := Lib.hid (show subscribeS h id track layer = (h, 7) by unfold subscribeS; rw [hf])
    clear hr2 hf hr3
    go_quiet (fail)
    go_wp2
    go_returns
    refine Ret.mk (.refl I) (H1.out.drewN _) ⟨rfl, ⟨by rw [HE.out]; rfl, vM, vT, vS, by rw [HE.out]⟩⟩
  rcases hr3.find H1.out with ⟨hf3, rfl⟩ | ⟨t, g3, o3, hf3, rfl, hg3, hcell3⟩
  · have HE := Lib.hid (show subscribeS h id track layer = (h, 7) by unfold subscribeS; rw [hf, hf3])
    clear hr2 hf hr3 hf3 hcell
    go_quiet (fail)
    go_wp2
    go_returns
    refine Ret.mk (.refl I) (H1.out.drewN _) ⟨rfl, ⟨by rw [HE.out]; rfl, vM, vT, vS, by rw [HE.out]⟩⟩
  have hmm : m ∈ h.ms := List.mem_of_find?_eq_some hf
  have htm : t ∈ h.ts := List.mem_of_find?_eq_some hf3
  have hmx := hmem t htm
  obtain ⟨m2, hm2⟩ : ∃ m2, mem? h t.member = some m2 := by
    cases e : mem? h t.member with
    | none => exact absurd e hmx
    | some m => exact ⟨m, rfl⟩
  have hE : subscribeS h id track layer = if inRoom h m.room t = false then (h, 7)
    else if m.rights / 2 % 2 = 0 then (h, 10)
    else if t.member = id ∨ layer < 0 ∨ 3 ≤ layer then (h, 1)
    else if h.ss.any (fun s => s.member == id && s.track == track) = true then ({ h with ss := setL (fun s => s.member == id && s.track == track) (fun s => { s with layer := layer }) h.ss }, 0)
    else if cntM h.ss id = 16 then (h, 6)
    else ({ h with ss := h.ss ++ [⟨id, track, layer⟩] }, 0) := by
    unfold subscribeS
    rw [hf, hf3]
  rw [show inRoom h m.room t = (m2.room.toList == m.room.toList) by unfold inRoom; rw [hm2]] at hE
  have HE := Lib.hid hE
  have HM2 := Lib.hid hm2
  have hmr := hr m hmm
  have z1 := hcell 1 (by decide)
  have z4 := hcell 4 (by decide)
  have x1 := hcell3 1 (by decide)
  simp only [memC, trkC, List.getElem?_cons_succ, List.getElem?_cons_zero] at z1 z4 x1
  obtain ⟨ra, hra⟩ := memAt_ex hvM H1.out t.member
  rcases hra.find H1.out with ⟨hf2, _⟩ | ⟨m2', g2, o2, hf2, rfl, hg2, hcell2⟩
  · rw [hm2] at hf2; cases hf2
  rw [hm2] at hf2
  injection hf2 with hf2
  subst hf2
  have u1 := hcell2 1 (by decide)
  simp only [memC, List.getElem?_cons_succ, List.getElem?_cons_zero] at u1
  have HC := Lib.hid (fun n => (memberC I _ _ p h vM vT vS t.member (H1.out.drewN n) (by omega)).mono (R' := fun e w' => e = .returned (.pointer (some ⟨g2, o2, none⟩)) ∧ w' = _) fun e w' ⟨h1, r', h2, h3⟩ => ⟨by rw [h2, hra.one h3], h1.symm⟩)
  clear hf hf3 hr2 hr3 hcell hcell3 hcell2 hmm htm hmx hm2 hE hra
  cases hroom : (m2.room.toList == m.room.toList)
  · have HE2 := Lib.hid (HE.out.trans (if_pos hroom))
    go_quiet ((go_at_call 34; with_reducible exact Calls.quiet_of_same (HC.out _)))
    go_wp2
    go_returns
    refine Ret.mk (.refl I) (H1.out.drewN _) ⟨rfl, ⟨by rw [HE2.out]; rfl, vM, vT, vS, by rw [HE2.out]⟩⟩
  have HE2 := Lib.hid (HE.out.trans (if_neg (by rw [hroom]; simp)))
  clear HE
  go_quiet ((go_at_call 34; with_reducible exact Calls.quiet_of_same (HC.out _)))
  have H2 := Lib.hid (H1.out.drewN nq)
  clear H1 hroom u1 hg2 HC HM2
  by_cases hri : m.rights / 2 % 2 = 0
  · have HE3 := Lib.hid (HE2.out.trans (if_pos hri))
    have hba := (and2 hmr).trans (decide_eq_true hri)
    go_wp2
    go_returns
    refine Ret.mk (.refl I) H2.out ⟨rfl, ⟨by rw [HE3.out]; rfl, vM, vT, vS, by rw [HE3.out]⟩⟩
  have HE3 := Lib.hid (HE2.out.trans (if_neg hri))
  have hba := (and2 hmr).trans (decide_eq_false hri)
  clear HE2 hri
  go_upto_region 8 with fail
  clear hba z4
  go_cut [55] (fun v wx => v = .bool (t.member == id || (decide (layer < 0) || decide (3 ≤ layer))) ∧ wx = World.drewN w nq)
  case first =>
    cases h1 : (t.member == id)
    · by_cases h2 : layer < 0
      · go_wp2
        go_meet
        exact ⟨by simp [h2], rfl⟩
      · by_cases h3 : 3 ≤ layer
        · go_wp2
          go_meet
          exact ⟨by simp [h3], rfl⟩
        · have h2' : 0 ≤ layer := by omega
          have h3' : layer < 3 := by omega
          go_wp2
          go_meet
          exact ⟨by rw [h1]; simp; omega, rfl⟩
    · go_wp2
      go_meet
      exact ⟨by rw [h1]; rfl, rfl⟩
  case rest =>
    obtain ⟨rfl, rfl⟩ := hcut
    clear x1 z1 hg hg3
    cases hbad : (t.member == id || (decide (layer < 0) || decide (3 ≤ layer)))
    rotate_left
    · have HE4 := Lib.hid (HE3.out.trans (if_pos (show t.member = id ∨ layer < 0 ∨ 3 ≤ layer by simpa using hbad)))
      clear hbad HE3
      go_wp2
      go_returns
      refine Ret.mk (.refl I) H2.out ⟨rfl, ⟨by rw [HE4.out]; rfl, vM, vT, vS, by rw [HE4.out]⟩⟩
    have HE4 := Lib.hid (HE3.out.trans (if_neg (show ¬ (t.member = id ∨ layer < 0 ∨ 3 ≤ layer) by
      intro hx
      have : (t.member == id || (decide (layer < 0) || decide (3 ≤ layer))) = true := by simpa using hx
      rw [this] at hbad
      cases hbad)))
    clear hbad HE3
    generalize World.drewN w nq = w1 at *
    obtain ⟨B, cb, rfl⟩ := own_form (show World.ownsRow _ 0 49 3 vS _ _ from H2.out.at 2 rfl)
    obtain ⟨hcP, hfP, hlP⟩ := Blk.all (H2.out.at 3 rfl)
    go_upto_region 12 with fail
    go_loopw [11, 75] (fun nv iv wr => ∃ (k n : Nat), k ≤ h.ss.length ∧ n ≤ k ∧ iv = .int .i64 k ∧ nv = .int .i64 n ∧ wr = w1 ∧ Hid (n = cntM (h.ss.take k) id ∧ ∀ j (hj : j < h.ss.length), j < k → (h.ss[j].member == id && h.ss[j].track == track) = false)) (fun _ iv _ => h.ss.length - (intOf iv).toNat)
    case atStart => exact ⟨0, 0, by omega, Nat.le_refl _, rfl, rfl, rfl, rfl, fun j hj h => by omega⟩
    case round =>
      obtain ⟨k, n, hk, hnk, rfl, rfl, hwr, hh⟩ := hrel
      subst wr
      by_cases hlt : k < h.ss.length
      · obtain ⟨g, rfl, _, hcc, hg, hcell, hfr⟩ := flat_cell (f := sbC) (s := 3) (fun _ => rfl) H2.out.swap2 (by omega) (by decide)
        have z0 := hcell k hlt 0 (by decide)
        have z1 := hcell k hlt 1 (by decide)
        have z2 := hcell k hlt 2 (by decide)
        have hf2 := hfr (k * 3 + 2)
        rw [Nat.add_zero] at z0
        obtain ⟨x, hx⟩ : ∃ x, x = h.ss[k] := ⟨_, rfl⟩
        rw [← hx] at z0 z1 z2
        simp only [sbC, List.getElem?_cons_succ, List.getElem?_cons_zero] at z0 z1 z2
        have hnx : cntM (h.ss.take (k + 1)) id = n + (if x.member == id then 1 else 0) := by
          unfold cntM
          rw [List.take_succ_eq_append_getElem hlt, List.filter_append, List.length_append, ← hx, hh.out.1]
          unfold cntM
          congr 1
          simp only [List.filter_cons, List.filter_nil]
          split <;> rfl
        have HX := Lib.hid hx
        have HN := Lib.hid hnx
        clear hcell hfr hx hnx
        cases h1 : (x.member == id)
        · have HH2 := Lib.hid (show n = cntM (h.ss.take (k + 1)) id ∧ ∀ j (hj : j < h.ss.length), j < k + 1 → (h.ss[j].member == id && h.ss[j].track == track) = false from ⟨by rw [HN.out, h1]; rfl, fun j hj h2 => by
            by_cases e : j = k
            · subst e; rw [← HX.out, h1]; rfl
            · exact hh.out.2 j hj (by omega)⟩)
          clear hh HN
          go_wp2
          go_roundw
          case rel => exact ⟨k + 1, n, by omega, by omega, by go_num, rfl, trivial, HH2.out⟩
          case measure => simp [intOf]; omega
        · cases h2 : (x.track == track)
          · have HH2 := Lib.hid (show n + 1 = cntM (h.ss.take (k + 1)) id ∧ ∀ j (hj : j < h.ss.length), j < k + 1 → (h.ss[j].member == id && h.ss[j].track == track) = false from ⟨by rw [HN.out, h1]; rfl, fun j hj h3 => by
              by_cases e : j = k
              · subst e; rw [← HX.out, h1, h2]; rfl
              · exact hh.out.2 j hj (by omega)⟩)
            clear hh HN
            go_wp2
            go_roundw
            case rel => exact ⟨k + 1, n + 1, by omega, by omega, by go_num, by go_num, trivial, HH2.out⟩
            case measure => simp [intOf]; omega
          · have hpk : (h.ss[k].member == id && h.ss[k].track == track) = true := by rw [← HX.out, h1, h2]; rfl
            have hany : h.ss.any (fun s => s.member == id && s.track == track) = true := List.any_eq_true.2 ⟨_, List.getElem_mem hlt, hpk⟩
            have hset := setL_hit (p := fun s => s.member == id && s.track == track) (f := fun s : Sb => { s with layer := layer }) h.ss k hlt hpk hh.out.2
            have hE5 := HE4.out.trans (if_pos hany)
            rw [hset, ← HX.out] at hE5
            have HE5 := Lib.hid hE5
            have hflat := flat_set (f := sbC) (s := 3) (fun _ => rfl) { x with layer := layer } (.int .i64 layer) h.ss k 2 hlt (by decide) (by rw [← HX.out]; rfl)
            have hs5 := (H2.out.swap2.rowCellSet (k * 3 + 2) (.int .i64 layer) (by rw [flat_len (s := 3) (fun _ => rfl)]; omega)).swap2
            rw [hflat] at hs5
            have HS5 := Lib.hid hs5
            clear hpk hany hset hE5 hflat hs5 hh HN HE4
            go_wp2
            go_returns
            refine Ret.mk (.refl I) HS5.out ⟨rfl, ⟨by rw [HE5.out]; rfl, vM, vT, _, by rw [HE5.out]; unfold hou; rw [List.length_set]⟩⟩
      · have hk' : k = h.ss.length := by omega
        have hk2 : (h.ss.length : Int) ≤ k := by omega
        have hno : ¬ h.ss.any (fun s => s.member == id && s.track == track) = true := by
          intro ha
          obtain ⟨x, hx, he⟩ := List.any_eq_true.1 ha
          obtain ⟨j, hj, rfl⟩ := List.getElem_of_mem hx
          rw [hh.out.2 j hj (by omega)] at he
          cases he
        have hE5 := HE4.out.trans (if_neg hno)
        have hcn := hh.out.1
        rw [hk', List.take_length] at hcn
        rw [← hcn] at hE5
        have HE5 := Lib.hid hE5
        clear hlt hk' hno hE5 hcn hh HE4
        by_cases h16 : n = 16
        · subst h16
          have HE6 := Lib.hid (HE5.out.trans (if_pos rfl))
          clear HE5
          go_wp2
          go_returns
          refine Ret.mk (.refl I) H2.out ⟨rfl, ⟨by rw [HE6.out]; rfl, vM, vT, _, by rw [HE6.out]⟩⟩
        · have h16' : ((n : Int) == 16) = false := by simp; omega
          have HE6 := Lib.hid (HE5.out.trans (if_neg h16))
          obtain ⟨i3, hi, hz0, hz1, hz2⟩ := info_parts info49
          have hs0 := H2.out.litSrcV (P := Try.prog) (t := 44) (e := 49) (cs := #[.int .i64 id, .int .i64 track, .int .i64 layer]) (n := 1) (size := 3) rfl (by decide) Try.underlying44 (by simp [Value.oneCell'])
          have Hs := Lib.hid hs0
          have HG := Lib.hid ((H2.out.grow (.cells #[.int .i64 id, .int .i64 track, .int .i64 layer] 49)).swap2)
          clear HE5 h16 hs0 H2
          go_wp2_with (at_builtin; refine wpList_append_src _ rfl _ _ 44 44 rfl 0 49 i3 (.agg #[.int .i64 0, .int .i64 0, .int .i64 0]) 3 24 Try.underlying44 hi hz0 hz1 hz2 rfl _ h.ss.length (flat sbC h.ss) rfl HG.out.head _ 1 _ rfl Hs.out (by unfold maxLen; omega) (by omega) (Nat.zero_le _) ?_)
          intro v' w' hown hgrow hat
          have hown2 : w'.ownsRow 0 49 3 v' (h.ss.length + 1) (flat sbC (h.ss ++ [Sb.mk id track layer])) := by simpa [flat_append, flat] using hown
          have hs3 := (HG.out.grown hgrow hown2 (by simpa using hat)).swap2
          obtain ⟨B', c', rfl⟩ := own_form hown2
          clear hown hown2 hgrow hat HG Hs hcP hfP hlP
          obtain ⟨hcP, hfP, hlP⟩ := Blk.all (hs3.at 3 rfl)
          have hs4 := hs3.set3 2 (.slice B' (h.ss.length + 1) c')
          have HL := Lib.hid (show (h.ss ++ [Sb.mk id track layer]).length = h.ss.length + 1 by simp)
          have HS4 := Lib.hid hs4
          clear hs3 hs4
          go_wp2
          go_returns
          refine Ret.mk (.refl I) HS4.out ⟨rfl, ⟨by rw [HE6.out]; rfl, vM, vT, _, by rw [HE6.out]; unfold hou; dsimp only; rw [HL.out]; rfl⟩⟩
end Go.Proofs.Ytbaobonlolbnpaa
