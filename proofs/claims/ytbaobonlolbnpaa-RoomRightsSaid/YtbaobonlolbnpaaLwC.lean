/- rostrumlaw23.RoomRights. -/
import Derived.Test.YtbaobonlolbnpaaLwA
namespace Go.Proofs.Ytbaobonlolbnpaa
open Go.RowKit
set_option linter.unusedSimpArgs false

theorem rem4 {r : Int} (h : 0 ≤ r ∧ r ≤ 7) : ((IntKind.i64.wrap (r.tdiv 2)).tmod 2 == 0) = decide (r / 2 % 2 = 0) := by
  have : r = 0 ∨ r = 1 ∨ r = 2 ∨ r = 3 ∨ r = 4 ∨ r = 5 ∨ r = 6 ∨ r = 7 := by omega
  rcases this with rfl | rfl | rfl | rfl | rfl | rfl | rfl | rfl <;> decide
theorem sub_fact {h : Ho} (i : Inv h) {name : ByteArray} {x : Trk} {y : Sb} (hx : x ∈ tracksS h name) (hy : y ∈ subsS h x.id) :
    ∃ m2 : Mem, roomS h y.member = (m2.room, 0) ∧ rightsS h y.member = m2.rights ∧ (m2.room.toList == name.toList) = true ∧ m2.rights / 2 % 2 = 1 ∧ (0 ≤ m2.rights ∧ m2.rights ≤ 7) ∧ (y.member == x.member) = false ∧ 0 ≤ y.layer ∧ y.layer ≤ 2 := by
  obtain ⟨hx1, hx2⟩ := List.mem_filter.1 hx
  obtain ⟨hy1, hy2⟩ := List.mem_filter.1 hy
  obtain ⟨m, t, mt, e1, e2, e3, e4, e5, e6, e7, e8⟩ := i.sm y hy1
  have hid := List.find?_some e2
  simp only [beq_iff_eq] at hid hy2
  have htx : t = x := nodup_inj (key := Trk.id) i.tnd (List.mem_of_find?_eq_some e2) hx1 (by rw [hid, hy2])
  subst htx
  unfold inRoom at hx2
  rw [e3] at hx2
  simp only [beq_iff_eq] at hx2
  refine ⟨m, by unfold roomS; rw [e1], by unfold rightsS; rw [e1], ?_, e5, i.rig m (List.mem_of_find?_eq_some e1), ?_, e7, e8⟩
  · simp only [beq_iff_eq]; rw [← e4, hx2]
  · cases e : (y.member == t.member)
    · rfl
    · simp only [beq_iff_eq] at e; exact absurd e.symm e6
set_option maxRecDepth 8000 in
set_option maxHeartbeats 16000000 in
theorem law5 (I : Img) (M : List Res) (w : World) (A : Option Addr) (c : Nat) (os : List OpV) (hst : St I M w) (ho : OpsAt I A os) (hl : os.length ≤ 140737488351232) :
    Calls Try.prog 5 #[.slice A os.length c] w (Ret I TrueV) := by
  have HS := Lib.hid hst
  have HO := Lib.hid ho
  clear hst ho
  go_enter Try.func5, Try.ntmps5
  go_wp2_with fail
  refine (awakeC I M _ HS.out).mono ?_
  rintro e w1 ⟨_, _, M, rfl, _, hs, rfl, rfl, rfl⟩
  replace HS := Lib.hid hs
  clear hs
  go_wp2_with fail
  refine (newC I M _ HS.out).mono ?_
  clear HS
  rintro e w1 ⟨_, _, _, rfl, _, hs, rfl, p, rfl, rfl⟩
  have HS := Lib.hid hs
  clear hs
  go_upto_region 5 with fail
  go_loopw [17] (fun iv wr => ∃ (i : Nat), i ≤ os.length ∧ iv = .int .i64 i ∧ Hid (∃ vM vT vS, St I (hou p (hoAt os i) vM vT vS M) wr)) (fun iv _ => os.length - (intOf iv).toNat)
  case atStart => exact ⟨0, by omega, rfl, _, _, _, HS.out⟩
  case round =>
    obtain ⟨i, hi, rfl, hh⟩ := hrel
    obtain ⟨vM, vT, vS, hs⟩ := hh.out
    clear hh HS
    by_cases hlt : i < os.length
    rotate_left
    · have hi2 : (os.length : Int) ≤ i := by omega
      go_wp2
      go_returns
      exact Ret.mk (.refl I) hs rfl
    by_cases h200 : 200 ≤ i
    · have h201 : (200 : Int) ≤ i := by omega
      go_wp2
      go_returns
      exact Ret.mk (.refl I) hs rfl
    have h199 : (i : Int) ≤ 199 := by omega
    clear h200
    obtain ⟨g, o0, rfl, hcell⟩ := HO.out.1 (by omega)
    have hok := HO.out.2 os[i] (List.getElem_mem hlt)
    have hop := hcell i hlt
    have hnx := hoAt_succ hlt
    have HIV := Lib.hid (hoAt_inv os i)
    have HSZ := Lib.hid (hoAt_sz os i)
    obtain ⟨x, hx⟩ : ∃ x, x = os[i] := ⟨_, rfl⟩
    obtain ⟨b, hb⟩ : ∃ b, b = o0 + i * 9 := ⟨_, rfl⟩
    rw [← hx] at hok hop hnx
    rw [← hb] at hop
    have HOK := Lib.hid hok
    have HNX := Lib.hid hnx
    have HC5 := Lib.hid (hop 5 (by decide))
    have hbi : o0 + i * 9 = b := hb.symm
    clear hx hb hok hnx hcell
    go_upto_region 8 with fail
    replace hs := hs.drew
    have HOP := Lib.hid (fun j hj => hop j hj)
    clear hop
    refine wp_region_held_drew (S := (fun w' => w'.cell? ⟨g, b, none⟩ = some (.int .i64 x.kind) ∧ w'.cell? ⟨g, b + 1, none⟩ = some (.int .i64 x.n) ∧ w'.cell? ⟨g, b + 2, none⟩ = some (.int .i64 x.m) ∧ w'.cell? ⟨g, b + 3, none⟩ = some (.int .i64 x.l) ∧ w'.cell? ⟨g, b + 4, none⟩ = some (.string x.text) ∧ w'.cell? ⟨g, b + 5, none⟩ = some (.string x.room) ∧ w'.cell? ⟨g, b + 6, none⟩ = some (.string x.user) ∧ w'.cell? ⟨g, b + 7, none⟩ = some (.int .i64 x.til) ∧ w'.cell? ⟨g, b + 8, none⟩ = some (.int .i64 x.rights))) (by kernel_rfl) (by (try dsimp only); exact op_cells HOP.out hs) (fun hHeld => ?_)
    generalize World.drew _ = W at hs hHeld ⊢
    refine wpAnyH_take (i := 0) (oi := _) (v := ?_) rfl (by kernel_rfl) (by kernel_rfl) (by kernel_rfl) (fun _ _ _ h => h) (Or.inl ⟨by rfl, ?_⟩) (by assumption) ?_
    rotate_left
    · (intro w hSw; (try dsimp only at hSw); go_simp; try with_reducible rfl)
    try simp only [Act.put, List.getElem_toArray, List.getElem_cons_zero, List.getElem_cons_succ, List.setIfInBounds_toArray, List.set_cons_zero, List.set_cons_succ]
    refine wpAnyH_take (i := 2) (oi := _) (v := ?_) rfl (by kernel_rfl) (by kernel_rfl) (by kernel_rfl) (fun _ _ _ h => h) (Or.inl ⟨by rfl, ?_⟩) (by assumption) ?_
    rotate_left
    · (intro w hSw; (try dsimp only at hSw); go_simp; try with_reducible rfl)
    try simp only [Act.put, List.getElem_toArray, List.getElem_cons_zero, List.getElem_cons_succ, List.setIfInBounds_toArray, List.set_cons_zero, List.set_cons_succ]
    refine wpAnyH_take (i := 3) (oi := _) (v := ?_) rfl (by kernel_rfl) (by kernel_rfl) (by kernel_rfl) (fun _ _ _ h => h) (Or.inl ⟨by rfl, ?_⟩) (by assumption) ?_
    rotate_left
    · (intro w hSw; (try dsimp only at hSw); go_simp; try with_reducible rfl)
    try simp only [Act.put, List.getElem_toArray, List.getElem_cons_zero, List.getElem_cons_succ, List.setIfInBounds_toArray, List.set_cons_zero, List.set_cons_succ]
    refine wpAnyH_take (i := 4) (oi := _) (v := ?_) rfl (by kernel_rfl) (by kernel_rfl) (by kernel_rfl) (fun _ _ _ h => h) (Or.inl ⟨by rfl, ?_⟩) (by assumption) ?_
    rotate_left
    · (intro w hSw; (try dsimp only at hSw); go_simp; try with_reducible rfl)
    try simp only [Act.put, List.getElem_toArray, List.getElem_cons_zero, List.getElem_cons_succ, List.setIfInBounds_toArray, List.set_cons_zero, List.set_cons_succ]
    refine wpAnyH_take (i := 5) (oi := _) (v := ?_) rfl (by kernel_rfl) (by kernel_rfl) (by kernel_rfl) (fun _ _ _ h => h) (Or.inl ⟨by rfl, ?_⟩) (by assumption) ?_
    rotate_left
    · (intro w hSw; (try dsimp only at hSw); go_simp; try with_reducible rfl)
    try simp only [Act.put, List.getElem_toArray, List.getElem_cons_zero, List.getElem_cons_succ, List.setIfInBounds_toArray, List.set_cons_zero, List.set_cons_succ]
    refine wpAnyH_ready (rs := [1]) (by kernel_rfl) (by simp) ?_
    refine (AllReadyH.cons (o := _) rfl (fun K hK => ?_) AllReadyH.nil)
    go_simp
    refine (newR I _ W hs).mono ?_
    rintro e W ⟨_, _, _, rfl, _, hs9, rfl, q, rfl, rfl⟩
    replace hs := hs9.flip4
    clear hs9
    try clear hHeld
    refine hK.out _ _ (by (try dsimp only); exact op_cells HOP.out hs) (fun hHeld => ?_)
    clear hK K
    try simp only [Act.put, List.getElem_toArray, List.getElem_cons_zero, List.getElem_cons_succ, List.setIfInBounds_toArray, List.set_cons_zero, List.set_cons_succ]
    refine wpAnyH_ready (rs := [6]) (by kernel_rfl) (by simp) ?_
    refine (AllReadyH.cons (o := _) rfl (fun K hK => ?_) AllReadyH.nil)
    go_simp
    refine (playC I _ W p q i (hoAt os i) emptyHo _ _ _ _ _ _ x hs HIV.out Inv.empty HSZ.out (Sz.empty _) (by omega) HOK.out).mono ?_
    rintro e W ⟨_, _, _, rfl, _, hs9, rfl, rfl, vM2, vT2, vS2, uM2, uT2, uS2, rfl⟩
    replace hs := hs9.flip4.drop.drop.drop.drop
    clear hs9
    try clear hHeld
    refine hK.out _ _ (by (try dsimp only); exact op_cells HOP.out hs) (fun hHeld => ?_)
    clear hK K
    try simp only [Act.put, List.getElem_toArray, List.getElem_cons_zero, List.getElem_cons_succ, List.setIfInBounds_toArray, List.set_cons_zero, List.set_cons_succ]
    refine wpAnyH_done (by kernel_rfl) ?_ _
    rw [← HNX.out] at hs
    have HS2 := Lib.hid (show ∃ vM vT vS, St I (hou p (hoAt os (i + 1)) vM vT vS M) W from ⟨_, _, _, hs⟩)
    clear hs hHeld
    have HI2 := Lib.hid (hoAt_inv os (i + 1))
    have HZ2 := Lib.hid (hoAt_sz os (i + 1))
    clear HIV HSZ HNX HOP HOK
    obtain ⟨h3, hh3⟩ : ∃ h3, h3 = hoAt os (i + 1) := ⟨_, rfl⟩
    rw [← hh3] at HS2 HI2 HZ2
    have HH3 := Lib.hid hh3
    clear hh3
    have hms : h3.ms.length ≤ 1000000 := by have := HZ2.out.ms; omega
    have hts : h3.ts.length ≤ 1000000 := by have := HZ2.out.ts; omega
    have hss : h3.ss.length ≤ 1000000 := by have := HZ2.out.ss; omega
    have hms2 : h3.ms.length ≤ 140737488351232 := by omega
    obtain ⟨vM, vT, vS, hs⟩ := HS2.out
    have HS := Lib.hid hs
    have y5 := hs.cell HC5.out
    replace y5 : W.cell? ⟨g, b + 5, none⟩ = some (.string x.room) := y5
    obtain ⟨name, hname⟩ : ∃ name, name = x.room := ⟨_, rfl⟩
    rw [← hname] at y5
    clear hname hs HS2
    obtain ⟨tl, htl⟩ : ∃ tl, tl = tracksS h3 name := ⟨_, rfl⟩
    have HTL := Lib.hid htl
    have htll : tl.length ≤ 1000000 := by rw [htl]; exact Nat.le_trans (List.length_filter_le _ _) hts
    clear htl
    go_upto_region 12 with (go_at_call 13; refine (tracksC I M _ p h3 _ _ _ name HS.out hts hms2 HI2.out.tm0).mono ?_; rintro e2 w2 ⟨_, _, _, rfl, _, hs, rfl, B, cb, rfl, rfl⟩; rw [← HTL.out] at hs ⊢; replace HS := Lib.hid hs.dn4; clear hs)
    clear y5 hbi
    go_loopw [40] (fun kv wx => ∃ (k : Nat), k ≤ tl.length ∧ kv = .int .i64 k ∧ Hid (St I (hou p h3 vM vT vS (row 47 4 (.slice B tl.length cb) tl.length (flat trkC tl) :: M)) wx)) (fun kv _ => tl.length - (intOf kv).toNat)
    case atStart => exact ⟨0, by omega, rfl, HS.out⟩
    case round =>
      obtain ⟨k, hk, rfl, hh⟩ := hrel
      have hs := hh.out
      clear hh HS
      by_cases hkl : k < tl.length
      · obtain ⟨g5, rfl, _, hcc, hg, hcell, _⟩ := flat_cell (f := trkC) (s := 4) (l := tl) (fun _ => rfl) hs.up4 (by omega) (by decide)
        have z0 := hcell k hkl 0 (by decide)
        have z1 := hcell k hkl 1 (by decide)
        rw [Nat.add_zero] at z0
        have hxt : tl[k] ∈ tracksS h3 name := by rw [← HTL.out]; exact List.getElem_mem hkl
        obtain ⟨t, ht⟩ : ∃ t, t = tl[k] := ⟨_, rfl⟩
        rw [← ht] at z0 z1 hxt
        simp only [trkC, List.getElem?_cons_succ, List.getElem?_cons_zero] at z0 z1
        obtain ⟨m, hm, hm2⟩ := HI2.out.tm t (List.mem_filter.1 hxt).1
        have hmr := HI2.out.rig m (List.mem_of_find?_eq_some hm)
        have hb1 : (Int.tmod m.rights 2 == 0) = false := (rem1 hmr).trans (decide_eq_false (by omega))
        have hb2 : (m.rights % 2 == 0) = false := by simp; omega
        have hrg := rightsC I _ _ p h3 _ _ _ t.member hs hms2
        rw [show rightsS h3 t.member = m.rights by unfold rightsS; rw [hm]] at hrg
        obtain ⟨sl, hsl⟩ : ∃ sl, sl = subsS h3 t.id := ⟨_, rfl⟩
        have hsll : sl.length ≤ 1000000 := by rw [hsl]; exact Nat.le_trans (List.length_filter_le _ _) hss
        have HSL := Lib.hid hsl
        have hsc := subsC I _ _ p h3 _ _ _ t.id hs hss
        rw [← hsl] at hsc
        have HXT := Lib.hid hxt
        have HT := Lib.hid ht
        have HS := Lib.hid hs
        clear hcell ht hsl hs hxt hm hm2
        go_upto_region 18 with (first | (go_at_call 18; refine hrg.mono ?_; clear hrg; rintro e2 w2 ⟨hw2, rfl⟩; subst w2) | (go_at_call 16; refine hsc.mono ?_; clear hsc; rintro e2 w2 ⟨_, _, _, rfl, _, hs, rfl, D, cd, rfl, rfl⟩; replace HS := Lib.hid hs.dn4; clear hs))
        clear z0 z1 hg hb1 hb2 hmr
        go_loopw [61] (fun jv wx => ∃ (j : Nat), j ≤ sl.length ∧ jv = .int .i64 j ∧ Hid (St I (hou p h3 vM vT vS (row 49 3 (.slice D sl.length cd) sl.length (flat sbC sl) :: row 47 4 (.slice (some ⟨g5, 0, none⟩) tl.length cb) tl.length (flat trkC tl) :: M)) wx)) (fun jv _ => sl.length - (intOf jv).toNat)
        case atStart => exact ⟨0, by omega, rfl, HS.out⟩
        case round =>
          obtain ⟨j, hj, rfl, hh⟩ := hrel
          have hs := hh.out
          clear hh HS
          by_cases hjl : j < sl.length
          · obtain ⟨g6, rfl, _, hcc5, hg6, hcell5, _⟩ := flat_cell (f := sbC) (s := 3) (l := sl) (fun _ => rfl) hs.up4 (by omega) (by decide)
            have y0 := hcell5 j hjl 0 (by decide)
            have y2 := hcell5 j hjl 2 (by decide)
            rw [Nat.add_zero] at y0
            have hys : sl[j] ∈ subsS h3 t.id := by rw [← HSL.out]; exact List.getElem_mem hjl
            obtain ⟨y, hy⟩ : ∃ y, y = sl[j] := ⟨_, rfl⟩
            rw [← hy] at y0 y2 hys
            simp only [sbC, List.getElem?_cons_succ, List.getElem?_cons_zero] at y0 y2
            obtain ⟨g7, e3, _, _, hg7, hcell, _⟩ := flat_cell (f := trkC) (s := 4) (l := tl) (fun _ => rfl) hs.up4.drop.up4 (by omega) (by decide)
            injection e3 with e3
            injection e3 with e3
            subst e3
            have z1 := hcell k hkl 1 (by decide)
            rw [← HT.out] at z1
            simp only [trkC, List.getElem?_cons_succ, List.getElem?_cons_zero] at z1
            obtain ⟨m2, f1, f2, f3, f4, f5, f6, f7, f8⟩ := sub_fact HI2.out HXT.out hys
            have hq1 : ((m2.rights.tdiv 2).tmod 2 == 0) = false := (rem2 f5).trans (decide_eq_false (by omega))
            have hq2 : (m2.rights / 2 % 2 == 0) = false := by simp; omega
            have hq4 : ((IntKind.i64.wrap (m2.rights.tdiv 2)).tmod 2 == 0) = false := (rem4 f5).trans (decide_eq_false (by omega))
            have hrc := roomC I _ _ p h3 _ _ _ y.member hs hms2
            rw [f1] at hrc
            have HC := Lib.hid (fun n => (rightsC I _ _ p h3 _ _ _ y.member (hs.drewN n) hms2).mono (R' := fun e w' => e = .returned (.int .i64 m2.rights) ∧ w' = _) fun e w' ⟨h1, h2⟩ => ⟨by rw [h2, f2], h1.symm⟩)
            have HS := Lib.hid hs
            obtain ⟨f51, f52⟩ := f5
            clear hcell5 hy hys hcell hs f1 f2 f4
            go_upto_region 21 with (go_at_call 14; refine hrc.mono ?_; clear hrc; rintro e2 w2 ⟨hw2, rfl⟩; subst w2)
            go_quiet ((go_at_call 18; with_reducible exact Calls.quiet_of_same (HC.out _)))
            have HX2 := Lib.hid (HS.out.drewN nq)
            go_wp2
            go_roundw
            case rel => exact ⟨j + 1, by omega, by go_num, HX2.out⟩
            case measure => simp [intOf]; omega
          · have hj2 : (sl.length : Int) ≤ j := by omega
            have HX2 := Lib.hid hs.up4.drop
            clear hjl hs
            go_wp2
            go_roundw
            case rel => exact ⟨k + 1, by omega, by go_num, HX2.out⟩
            case measure => simp [intOf]; omega
      · have hk2 : (tl.length : Int) ≤ k := by omega
        have HX := Lib.hid hs.up4.drop
        clear hkl hs
        go_wp2
        go_roundw
        case rel => exact ⟨i + 1, by omega, by go_num, vM, vT, vS, by rw [← HH3.out]; exact HX.out⟩
        case measure => simp [intOf]; omega
end Go.Proofs.Ytbaobonlolbnpaa
