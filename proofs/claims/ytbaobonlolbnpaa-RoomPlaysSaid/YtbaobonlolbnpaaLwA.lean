/- rostrumlaw23.RoomBounds. -/
import Derived.Test.YtbaobonlolbnpaaPlA
namespace Go.Proofs.Ytbaobonlolbnpaa
open Go.RowKit
set_option linter.unusedSimpArgs false
def OpsAt (I : Img) (A : Option Addr) (os : List OpV) : Prop :=
  (0 < os.length → ∃ g o, A = some ⟨g, o, none⟩ ∧ ∀ i (h : i < os.length) j, j < 9 → I.cell? ⟨g, o + i * 9 + j, none⟩ = (opC os[i])[j]?) ∧ ∀ x ∈ os, OpSz x
theorem op_cells {I : Img} {M : List Res} {w : World} {g b : Nat} {o : OpV} (h : ∀ j, j < 9 → I.cell? ⟨g, b + j, none⟩ = (opC o)[j]?) (hs : St I M w) :
    w.cell? ⟨g, b, none⟩ = some (.int .i64 o.kind) ∧ w.cell? ⟨g, b + 1, none⟩ = some (.int .i64 o.n) ∧ w.cell? ⟨g, b + 2, none⟩ = some (.int .i64 o.m) ∧ w.cell? ⟨g, b + 3, none⟩ = some (.int .i64 o.l) ∧ w.cell? ⟨g, b + 4, none⟩ = some (.string o.text) ∧ w.cell? ⟨g, b + 5, none⟩ = some (.string o.room) ∧ w.cell? ⟨g, b + 6, none⟩ = some (.string o.user) ∧ w.cell? ⟨g, b + 7, none⟩ = some (.int .i64 o.til) ∧ w.cell? ⟨g, b + 8, none⟩ = some (.int .i64 o.rights) :=
  ⟨hs.cell (h 0 (by decide)), hs.cell (h 1 (by decide)), hs.cell (h 2 (by decide)), hs.cell (h 3 (by decide)), hs.cell (h 4 (by decide)), hs.cell (h 5 (by decide)), hs.cell (h 6 (by decide)), hs.cell (h 7 (by decide)), hs.cell (h 8 (by decide))⟩
def hoAt (os : List OpV) (i : Nat) : Ho := (os.take i).foldl (fun h o => (stepS h o).1) emptyHo
theorem hoAt_zero (os : List OpV) : hoAt os 0 = emptyHo := rfl
theorem hoAt_succ {os : List OpV} {i : Nat} (h : i < os.length) : hoAt os (i + 1) = (stepS (hoAt os i) os[i]).1 := by
  unfold hoAt
  rw [List.take_succ_eq_append_getElem h, List.foldl_append]
  rfl
theorem hoAt_inv (os : List OpV) (i : Nat) : Inv (hoAt os i) := by
  unfold hoAt
  generalize os.take i = l
  suffices ∀ h, Inv h → Inv (l.foldl (fun h o => (stepS h o).1) h) from this _ Inv.empty
  induction l with
  | nil => exact fun h i => i
  | cons o r ih => exact fun h i => ih _ (i.step o)
theorem hoAt_sz (os : List OpV) (i : Nat) : Sz (hoAt os i) i := by
  have key : ∀ (l : List OpV) (h : Ho) (k : Nat), Sz h k → Sz (l.foldl (fun h o => (stepS h o).1) h) (k + l.length) := by
    intro l
    induction l with
    | nil => exact fun h k s => s
    | cons o r ih =>
      intro h k s
      have := ih _ _ (s.step o)
      rw [List.length_cons, show k + (r.length + 1) = k + 1 + r.length by omega]
      exact this
  have := key (os.take i) emptyHo 0 (Sz.empty 0)
  refine Sz.mono this ?_
  rw [List.length_take]
  omega
theorem membersS_len (h : Ho) (r : ByteArray) : (membersS h r).length = cnt (roomsL h.ms) r := by
  unfold membersS cnt roomsL
  rw [List.length_map, ← List.countP_eq_length_filter, ← List.countP_eq_length_filter, List.countP_reverse, List.countP_map]
  rfl
theorem members_any {h : Ho} {r : ByteArray} (h0 : 0 < (membersS h r).length) : (roomsL h.ms).any (fun y => y.toList == r.toList) = true := by
  rw [membersS_len] at h0
  cases e : (roomsL h.ms).any (fun y => y.toList == r.toList)
  · rw [cnt_zero e] at h0; cases h0
  · rfl

set_option maxRecDepth 8000 in
set_option maxHeartbeats 16000000 in
theorem law3 (I : Img) (M : List Res) (w : World) (A : Option Addr) (c : Nat) (os : List OpV) (hst : St I M w) (ho : OpsAt I A os) (hl : os.length ≤ 140737488351232) :
    Calls Try.prog 3 #[.slice A os.length c] w (Ret I TrueV) := by
  have HS := Lib.hid hst
  have HO := Lib.hid ho
  clear hst ho
  go_enter Try.func3, Try.ntmps3
  go_wp2_with fail
  refine (awakeC I M _ HS.out).mono ?_
  rintro e w1 ⟨_, _, M, rfl, _, hs, rfl, rfl, rfl⟩
  replace HS := Lib.hid hs
  clear hs
  go_wp2_with fail
  refine (newC I M _ HS.out).mono ?_
  clear HS
  rintro e w1 ⟨_, _, _, rfl, _, hs, rfl, p, rfl, rfl⟩
  have HS := Lib.hid hs
  clear hs
  go_upto_region 5 with fail
  go_loopw [15] (fun iv wr => ∃ (i : Nat), i ≤ os.length ∧ iv = .int .i64 i ∧ Hid (∃ vM vT vS, St I (hou p (hoAt os i) vM vT vS M) wr)) (fun iv _ => os.length - (intOf iv).toNat)
  case atStart => exact ⟨0, by omega, rfl, _, _, _, HS.out⟩
  case round =>
    obtain ⟨i, hi, rfl, hh⟩ := hrel
    obtain ⟨vM, vT, vS, hs⟩ := hh.out
    clear hh HS
    by_cases hlt : i < os.length
    rotate_left
    · have hi2 : (os.length : Int) ≤ i := by omega
      go_wp2
      go_returns
      exact Ret.mk (.refl I) hs rfl
    by_cases h200 : 200 ≤ i
    · have h201 : (200 : Int) ≤ i := by omega
      go_wp2
      go_returns
      exact Ret.mk (.refl I) hs rfl
    have h199 : (i : Int) ≤ 199 := by omega
    clear h200
    obtain ⟨g, o0, rfl, hcell⟩ := HO.out.1 (by omega)
    have hok := HO.out.2 os[i] (List.getElem_mem hlt)
    have hop := hcell i hlt
    have hnx := hoAt_succ hlt
    have HIV := Lib.hid (hoAt_inv os i)
    have HSZ := Lib.hid (hoAt_sz os i)
    obtain ⟨x, hx⟩ : ∃ x, x = os[i] := ⟨_, rfl⟩
    obtain ⟨b, hb⟩ : ∃ b, b = o0 + i * 9 := ⟨_, rfl⟩
    rw [← hx] at hok hop hnx
    rw [← hb] at hop
    have HOK := Lib.hid hok
    have HNX := Lib.hid hnx
    have HCELL := Lib.hid hcell
    have hbi : o0 + i * 9 = b := hb.symm
    clear hx hb hok hnx hcell
    go_upto_region 8 with fail
    replace hs := hs.drew
    have HOP := Lib.hid (fun j hj => hop j hj)
    clear hop
    refine wp_region_held_drew (S := (fun w' => w'.cell? ⟨g, b, none⟩ = some (.int .i64 x.kind) ∧ w'.cell? ⟨g, b + 1, none⟩ = some (.int .i64 x.n) ∧ w'.cell? ⟨g, b + 2, none⟩ = some (.int .i64 x.m) ∧ w'.cell? ⟨g, b + 3, none⟩ = some (.int .i64 x.l) ∧ w'.cell? ⟨g, b + 4, none⟩ = some (.string x.text) ∧ w'.cell? ⟨g, b + 5, none⟩ = some (.string x.room) ∧ w'.cell? ⟨g, b + 6, none⟩ = some (.string x.user) ∧ w'.cell? ⟨g, b + 7, none⟩ = some (.int .i64 x.til) ∧ w'.cell? ⟨g, b + 8, none⟩ = some (.int .i64 x.rights))) (by kernel_rfl) (by (try dsimp only); exact op_cells HOP.out hs) (fun hHeld => ?_)
    generalize World.drew _ = W at hs hHeld ⊢
    refine wpAnyH_take (i := 0) (oi := _) (v := ?_) rfl (by kernel_rfl) (by kernel_rfl) (by kernel_rfl) (fun _ _ _ h => h) (Or.inl ⟨by rfl, ?_⟩) (by assumption) ?_
    rotate_left
    · (intro w hSw; (try dsimp only at hSw); go_simp; try with_reducible rfl)
    try simp only [Act.put, List.getElem_toArray, List.getElem_cons_zero, List.getElem_cons_succ, List.setIfInBounds_toArray, List.set_cons_zero, List.set_cons_succ]
    refine wpAnyH_take (i := 2) (oi := _) (v := ?_) rfl (by kernel_rfl) (by kernel_rfl) (by kernel_rfl) (fun _ _ _ h => h) (Or.inl ⟨by rfl, ?_⟩) (by assumption) ?_
    rotate_left
    · (intro w hSw; (try dsimp only at hSw); go_simp; try with_reducible rfl)
    try simp only [Act.put, List.getElem_toArray, List.getElem_cons_zero, List.getElem_cons_succ, List.setIfInBounds_toArray, List.set_cons_zero, List.set_cons_succ]
    refine wpAnyH_take (i := 3) (oi := _) (v := ?_) rfl (by kernel_rfl) (by kernel_rfl) (by kernel_rfl) (fun _ _ _ h => h) (Or.inl ⟨by rfl, ?_⟩) (by assumption) ?_
    rotate_left
    · (intro w hSw; (try dsimp only at hSw); go_simp; try with_reducible rfl)
    try simp only [Act.put, List.getElem_toArray, List.getElem_cons_zero, List.getElem_cons_succ, List.setIfInBounds_toArray, List.set_cons_zero, List.set_cons_succ]
    refine wpAnyH_take (i := 4) (oi := _) (v := ?_) rfl (by kernel_rfl) (by kernel_rfl) (by kernel_rfl) (fun _ _ _ h => h) (Or.inl ⟨by rfl, ?_⟩) (by assumption) ?_
    rotate_left
    · (intro w hSw; (try dsimp only at hSw); go_simp; try with_reducible rfl)
    try simp only [Act.put, List.getElem_toArray, List.getElem_cons_zero, List.getElem_cons_succ, List.setIfInBounds_toArray, List.set_cons_zero, List.set_cons_succ]
    refine wpAnyH_take (i := 5) (oi := _) (v := ?_) rfl (by kernel_rfl) (by kernel_rfl) (by kernel_rfl) (fun _ _ _ h => h) (Or.inl ⟨by rfl, ?_⟩) (by assumption) ?_
    rotate_left
    · (intro w hSw; (try dsimp only at hSw); go_simp; try with_reducible rfl)
    try simp only [Act.put, List.getElem_toArray, List.getElem_cons_zero, List.getElem_cons_succ, List.setIfInBounds_toArray, List.set_cons_zero, List.set_cons_succ]
    refine wpAnyH_ready (rs := [1]) (by kernel_rfl) (by simp) ?_
    refine (AllReadyH.cons (o := _) rfl (fun K hK => ?_) AllReadyH.nil)
    go_simp
    refine (newR I _ W hs).mono ?_
    rintro e W ⟨_, _, _, rfl, _, hs9, rfl, q, rfl, rfl⟩
    replace hs := hs9.flip4
    clear hs9
    try clear hHeld
    refine hK.out _ _ (by (try dsimp only); exact op_cells HOP.out hs) (fun hHeld => ?_)
    clear hK K
    try simp only [Act.put, List.getElem_toArray, List.getElem_cons_zero, List.getElem_cons_succ, List.setIfInBounds_toArray, List.set_cons_zero, List.set_cons_succ]
    refine wpAnyH_ready (rs := [6]) (by kernel_rfl) (by simp) ?_
    refine (AllReadyH.cons (o := _) rfl (fun K hK => ?_) AllReadyH.nil)
    go_simp
    refine (playC I _ W p q i (hoAt os i) emptyHo _ _ _ _ _ _ x hs HIV.out Inv.empty HSZ.out (Sz.empty _) (by omega) HOK.out).mono ?_
    rintro e W ⟨_, _, _, rfl, _, hs9, rfl, rfl, vM2, vT2, vS2, uM2, uT2, uS2, rfl⟩
    replace hs := hs9.flip4.drop.drop.drop.drop
    clear hs9
    try clear hHeld
    refine hK.out _ _ (by (try dsimp only); exact op_cells HOP.out hs) (fun hHeld => ?_)
    clear hK K
    try simp only [Act.put, List.getElem_toArray, List.getElem_cons_zero, List.getElem_cons_succ, List.setIfInBounds_toArray, List.set_cons_zero, List.set_cons_succ]
    refine wpAnyH_done (by kernel_rfl) ?_ _
    rw [← HNX.out] at hs
    have HS2 := Lib.hid (show ∃ vM vT vS, St I (hou p (hoAt os (i + 1)) vM vT vS M) W from ⟨_, _, _, hs⟩)
    clear hs hHeld
    have HI2 := Lib.hid (hoAt_inv os (i + 1))
    have HZ2 := Lib.hid (hoAt_sz os (i + 1))
    clear HIV HSZ HNX HOP HOK hbi
    go_upto_region 11 with fail
    obtain ⟨h3, hh3⟩ : ∃ h3, h3 = hoAt os (i + 1) := ⟨_, rfl⟩
    rw [← hh3] at HS2 HI2 HZ2
    have HH3 := Lib.hid hh3
    clear hh3
    have hms : h3.ms.length ≤ 1000000 := by have := HZ2.out.ms; omega
    have hts : h3.ts.length ≤ 1000000 := by have := HZ2.out.ts; omega
    have hms2 : h3.ms.length ≤ 140737488351232 := by omega
    obtain ⟨vM, vT, vS, hs⟩ := HS2.out
    have HS := Lib.hid (hs.nil (e := 9) (size := 1)).dn4
    clear hs HS2
    go_loopw [5, 29] (fun lv jv wr => ∃ (k : Nat) (B : Option Addr) (cb : Nat) (l : List ByteArray), k ≤ i + 1 ∧ l.length ≤ k ∧ jv = .int .i64 k ∧ lv = .slice B l.length cb ∧ Hid ((l.map ByteArray.toList).Nodup ∧ (∀ x ∈ l, (roomsL h3.ms).any (fun z => z.toList == x.toList) = true) ∧ St I (hou p h3 vM vT vS (row 9 1 (.slice B l.length cb) l.length (strs l) :: M)) wr)) (fun _ jv _ => i + 1 - (intOf jv).toNat)
    case atStart => exact ⟨0, none, 0, [], by omega, Nat.le_refl _, rfl, rfl, .nil, (fun x hx => by cases hx), HS.out⟩
    case round =>
      obtain ⟨k, B, cb, l, hk, hlk, rfl, rfl, hh⟩ := hrel
      obtain ⟨hnd, hin, hs⟩ := hh.out
      have HND := Lib.hid hnd
      have HIN := Lib.hid hin
      have HS := Lib.hid hs
      clear hh hnd hin
      by_cases hki : k < i + 1
      · have hko : k < os.length := by omega
        have y5 := HS.out.cell (HCELL.out k hko 5 (by decide))
        obtain ⟨r, hr⟩ : ∃ r, r = os[k].room := ⟨_, rfl⟩
        replace y5 : wr.cell? ⟨g, o0 + k * 9 + 5, none⟩ = some (.string r) := by rw [hr]; exact y5
        obtain ⟨n, hn⟩ : ∃ n, n = (membersS h3 r).length := ⟨_, rfl⟩
        have hn8 : (n : Int) ≤ 8 := by have := HI2.out.c8 r; rw [← membersS_len, ← hn] at this; omega
        obtain ⟨tl, htl⟩ : ∃ tl, tl = (tracksS h3 r).length := ⟨_, rfl⟩
        have ht8 : (tl : Int) ≤ 8 := by have := HI2.out.t8 r; rw [← htl] at this; omega
        have HN := Lib.hid hn
        have HT := Lib.hid htl
        clear hr hn htl hs
        go_upto_region 16 with fail
        go_loopw [8, 40] (fun tv jv wx => ∃ (j : Nat) (t : Bool), j ≤ l.length ∧ jv = .int .i64 j ∧ tv = .bool t ∧ wx = wr ∧ Hid (t = (l.take j).any (fun y => y.toList == r.toList))) (fun _ jv _ => l.length - (intOf jv).toNat)
        case atStart => exact ⟨0, false, by omega, rfl, rfl, rfl, rfl⟩
        case round =>
          obtain ⟨j, t, hj, rfl, rfl, hwx, ht⟩ := hrel
          subst hwx
          by_cases hjl : j < l.length
          · obtain ⟨g5, rfl, _, hc5, hg5, hcell5, _⟩ := St.rowCells HS.out.up4 (by rw [List.length_map]; omega)
            have y0 := hcell5 j (by rw [List.length_map]; exact hjl)
            rw [List.getElem_map] at y0
            have hnx := any_take_succ (s := r) hjl
            rw [← ht.out] at hnx
            obtain ⟨u, hu⟩ : ∃ u, u = l[j] := ⟨_, rfl⟩
            rw [← hu] at y0 hnx
            have HNX := Lib.hid hnx
            clear hcell5 hu hnx
            cases t
            · cases hb : (u.toList == r.toList)
              all_goals
                have HT2 := Lib.hid (HNX.out.trans (by rw [hb]))
                go_wp2
                go_roundw
                case rel => exact ⟨j + 1, _, by omega, by go_num, rfl, trivial, by rw [HT2.out]; rfl⟩
                case measure => simp [intOf]; omega
            · have HT2 := Lib.hid (HNX.out.trans (Bool.true_or _))
              go_wp2
              go_roundw
              case rel => exact ⟨j + 1, _, by omega, by go_num, rfl, trivial, HT2.out.symm⟩
              case measure => simp [intOf]; omega
          · have hj2 : (l.length : Int) ≤ j := by omega
            have ht2 : t = l.any (fun y => y.toList == r.toList) := by rw [ht.out, List.take_of_length_le (by omega)]
            have HT2 := Lib.hid ht2
            clear hjl ht ht2 y5
            cases t
            rotate_left
            · skip
              go_wp2_with (first | (go_at_call 12; refine (membersC I _ _ p h3 _ _ _ r HS.out hms).mono ?_; rintro e w2 ⟨_, _, _, rfl, _, hs9, rfl, B9, c9, rfl, rfl⟩; rw [← HN.out]; replace HS := Lib.hid hs9.drop; clear hs9) | (go_at_call 13; refine (tracksC I _ _ p h3 _ _ _ r HS.out hts hms2 HI2.out.tm0).mono ?_; rintro e w2 ⟨_, _, _, rfl, _, hs9, rfl, B9, c9, rfl, rfl⟩; rw [← HT.out]; replace HS := Lib.hid hs9.drop; clear hs9))
              go_roundw
              case rel => exact ⟨k + 1, B, cb, l, by omega, by omega, by go_num, rfl, HND.out, HIN.out, HS.out⟩
              case measure => simp [intOf]; omega
            · by_cases hn0 : n = 0
              · subst hn0
                go_wp2_with (first | (go_at_call 12; refine (membersC I _ _ p h3 _ _ _ r HS.out hms).mono ?_; rintro e w2 ⟨_, _, _, rfl, _, hs9, rfl, B9, c9, rfl, rfl⟩; rw [← HN.out]; replace HS := Lib.hid hs9.drop; clear hs9) | (go_at_call 13; refine (tracksC I _ _ p h3 _ _ _ r HS.out hts hms2 HI2.out.tm0).mono ?_; rintro e w2 ⟨_, _, _, rfl, _, hs9, rfl, B9, c9, rfl, rfl⟩; rw [← HT.out]; replace HS := Lib.hid hs9.drop; clear hs9))
                go_roundw
                case rel => exact ⟨k + 1, B, cb, l, by omega, by omega, by go_num, rfl, HND.out, HIN.out, HS.out⟩
                case measure => simp [intOf]; omega
              · have hn1 : (0 : Int) < n := by omega
                have HNEW := Lib.hid (show ((l ++ [r]).map ByteArray.toList).Nodup ∧ (∀ x ∈ l ++ [r], (roomsL h3.ms).any (fun z => z.toList == x.toList) = true) by
                  refine ⟨?_, fun x hx => ?_⟩
                  · rw [List.map_append]
                    refine List.nodup_append.2 ⟨HND.out, by simp, fun a ha b hb => ?_⟩
                    obtain ⟨m, hm, rfl⟩ := List.mem_map.1 ha
                    simp only [List.map_cons, List.map_nil, List.mem_singleton] at hb
                    have := List.any_eq_false.1 HT2.out.symm m hm
                    subst hb
                    simpa using this
                  · rcases List.mem_append.1 hx with h | h
                    · exact HIN.out x h
                    · obtain rfl : x = r := by simpa using h
                      exact members_any (by rw [← HN.out]; omega))
                obtain ⟨i3, hi3, hz0, hz1, hz2⟩ := info_parts info9
                go_upto_region 21 with (first | (go_at_call 12; refine (membersC I _ _ p h3 _ _ _ r HS.out hms).mono ?_; rintro e w2 ⟨_, _, _, rfl, _, hs9, rfl, B9, c9, rfl, rfl⟩; rw [← HN.out]; replace HS := Lib.hid hs9.drop; clear hs9) | (go_at_call 13; refine (tracksC I _ _ p h3 _ _ _ r HS.out hts hms2 HI2.out.tm0).mono ?_; rintro e w2 ⟨_, _, _, rfl, _, hs9, rfl, B9, c9, rfl, rfl⟩; rw [← HT.out]; replace HS := Lib.hid hs9.drop; clear hs9))
                have hs0 := HS.out.litSrcV (P := Try.prog) (t := 33) (e := 9) (cs := #[.string r]) (n := 1) (size := 1) rfl (by decide) Try.underlying33 (by simp [Value.oneCell'])
                have Hs := Lib.hid hs0
                have HG := Lib.hid ((HS.out.grow (.cells #[.string r] 9)).up4)
                clear hs0 HS
                go_wp2_with (at_builtin; refine wpList_append_src _ rfl _ _ 33 33 rfl 0 9 i3 (.string ⟨#[]⟩) 1 16 Try.underlying33 hi3 hz0 hz1 hz2 rfl _ l.length (strs l) rfl HG.out.head _ 1 _ rfl Hs.out (by unfold maxLen; omega) (by omega) (Nat.zero_le _) ?_)
                intro v' w' hown hgrow hat
                have hown2 : w'.ownsRow 0 9 1 v' (l ++ [r]).length (strs (l ++ [r])) := by simpa [strs] using hown
                have hs3 := (HG.out.grown hgrow hown2 (by simpa using hat)).dn4
                obtain ⟨B', c', rfl⟩ := own_form hown2
                clear hown hown2 hgrow hat HG Hs
                obtain ⟨n2, hn2⟩ : ∃ n2, n2 = (l ++ [r]).length := ⟨_, rfl⟩
                have hn3 : n2 = l.length + 1 := by rw [hn2]; simp
                rw [← hn2] at hs3 ⊢
                have HS := Lib.hid hs3
                have HN9 := Lib.hid hn2
                have HN3 := Lib.hid hn3
                clear hs3 hn2 hn3
                go_wp2_with (first | (go_at_call 12; refine (membersC I _ _ p h3 _ _ _ r HS.out hms).mono ?_; rintro e w2 ⟨_, _, _, rfl, _, hs9, rfl, B9, c9, rfl, rfl⟩; rw [← HN.out]; replace HS := Lib.hid hs9.drop; clear hs9) | (go_at_call 13; refine (tracksC I _ _ p h3 _ _ _ r HS.out hts hms2 HI2.out.tm0).mono ?_; rintro e w2 ⟨_, _, _, rfl, _, hs9, rfl, B9, c9, rfl, rfl⟩; rw [← HT.out]; replace HS := Lib.hid hs9.drop; clear hs9))
                go_roundw
                case rel => exact ⟨k + 1, B', c', l ++ [r], by omega, by rw [← HN9.out, HN3.out]; omega, by go_num, by rw [← HN9.out], HNEW.out.1, HNEW.out.2, by rw [← HN9.out]; exact HS.out⟩
                case measure => simp [intOf]; omega
      · have hki2 : (i : Int) + 1 ≤ k := by omega
        have hl4 : (l.length : Int) ≤ 4 := by
          have := once_le l (roomsL h3.ms) HND.out HIN.out
          have := HI2.out.d4
          omega
        have HX := Lib.hid (hs.up4.drop)
        clear hki HND HIN hs
        go_wp2
        go_roundw
        case rel => exact ⟨i + 1, by omega, by go_num, vM, vT, vS, by rw [← HH3.out]; exact HX.out⟩
        case measure => simp [intOf]; omega
end Go.Proofs.Ytbaobonlolbnpaa
