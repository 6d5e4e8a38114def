/- rostrumlaw23.RoomLeaves. -/
import Derived.Test.YtbaobonlolbnpaaLwA
namespace Go.Proofs.Ytbaobonlolbnpaa
open Go.RowKit
set_option linter.unusedSimpArgs false

abbrev usr : ByteArray := ⟨#[115, 111, 109, 101, 111, 110, 101, 45, 101, 108, 115, 101, 45, 119, 104, 111, 45, 119, 97, 115, 45, 110, 111, 116, 45, 116, 104, 101, 114, 101]⟩
structure After (h : Ho) (n : Int) (name : ByteArray) : Prop where
  gone : mem? h n = none
  ts : ∀ t ∈ h.ts, (t.member == n) = false
  ss : ∀ s ∈ h.ss, (s.member == n) = false
  nm : name = ⟨#[]⟩ ∨ n ≤ h.lm
  sz : name.size ≤ maxLen
theorem after_of {h : Ho} (i : Inv h) (n : Int) : ∃ name e h1, roomS h n = (name, e) ∧ leaveS h n = (h1, e) ∧ After h1 n name := by
  cases hf : mem? h n with
  | none =>
    refine ⟨⟨#[]⟩, 7, h, by unfold roomS; rw [hf], by unfold leaveS; rw [if_pos hf], hf, fun t ht => ?_, fun s hs => ?_, .inl rfl, Nat.zero_le _⟩
    · obtain ⟨m, hm, _⟩ := i.tm t ht
      cases e : (t.member == n)
      · rfl
      · simp only [beq_iff_eq] at e; rw [e, hf] at hm; cases hm
    · obtain ⟨m, _, _, hm, _⟩ := i.sm s hs
      cases e : (s.member == n)
      · rfl
      · simp only [beq_iff_eq] at e; rw [e, hf] at hm; cases hm
  | some m =>
    have hmm := List.mem_of_find?_eq_some hf
    have hid : m.id = n := by have := List.find?_some hf; simpa using this
    refine ⟨m.room, 0, (leaveS h n).1, by unfold roomS; rw [hf], ?_, ?_⟩
    · unfold leaveS; rw [if_neg (by rw [hf]; simp)]
    · unfold leaveS
      rw [if_neg (by rw [hf]; simp)]
      refine ⟨?_, fun t ht => ?_, fun s hs => ?_, .inr ?_, i.rsz m hmm⟩
      · refine List.find?_eq_none.2 (fun x hx => ?_)
        have := (List.mem_filter.1 hx).2
        simpa using this
      · have := (List.mem_filter.1 ht).2
        simpa using this
      · have := (List.mem_filter.1 hs).2
        rw [Bool.not_or, Bool.and_eq_true] at this
        simpa using this.1
      · have := i.mlt m hmm
        show n ≤ h.lm
        omega
theorem join_after {h : Ho} {n : Int} {name : ByteArray} (a : After h n name) (user : ByteArray) (til rights : Int) : ((joinS h name user til rights).2.2 ≠ 0 ∨ (joinS h name user til rights).2.1 ≠ n) ∧ mem? (joinS h name user til rights).1 n = none := by
  rcases a.nm with h0 | hn
  · subst h0
    have e : joinS h ⟨#[]⟩ user til rights = (h, 0, 1) := by unfold joinS; rw [if_pos (.inl rfl)]
    rw [e]
    exact ⟨.inl (show (1 : Int) ≠ 0 by decide), a.gone⟩
  · unfold joinS
    split
    · exact ⟨.inl (show (1 : Int) ≠ 0 by decide), a.gone⟩
    split
    · exact ⟨.inl (show (9 : Int) ≠ 0 by decide), a.gone⟩
    split
    · exact ⟨.inl (show (6 : Int) ≠ 0 by decide), a.gone⟩
    · refine ⟨.inr (by show h.lm + 1 ≠ n; omega), ?_⟩
      have hg := a.gone
      unfold mem? at hg ⊢
      show (h.ms ++ [_]).find? _ = none
      rw [List.find?_append, hg]
      refine List.find?_eq_none.2 (fun x hx => ?_)
      obtain rfl := List.mem_singleton.1 hx
      show ¬ ((h.lm + 1 == n) = true)
      simp
      omega
set_option maxRecDepth 8000 in
set_option maxHeartbeats 16000000 in
theorem law4 (I : Img) (M : List Res) (w : World) (A : Option Addr) (c : Nat) (os : List OpV) (at_ : Int) (hst : St I M w) (ho : OpsAt I A os) (hl : os.length ≤ 140737488351232) (hat : (Lit.int .i64 at_).wf = true) :
    Calls Try.prog 4 #[.slice A os.length c, .int .i64 at_] w (Ret I TrueV) := by
  have HS := Lib.hid hst
  have HO := Lib.hid ho
  have HAT := Lib.hid hat
  clear hst ho hat
  go_enter Try.func4, Try.ntmps4
  go_wp2_with fail
  refine (awakeC I M _ HS.out).mono ?_
  rintro e w1 ⟨_, _, M, rfl, _, hs, rfl, rfl, rfl⟩
  replace HS := Lib.hid hs
  clear hs
  go_wp2_with fail
  refine (newC I M _ HS.out).mono ?_
  clear HS
  rintro e w1 ⟨_, _, _, rfl, _, hs, rfl, p, rfl, rfl⟩
  have HS := Lib.hid hs
  clear hs
  go_upto_region 5 with fail
  go_loopw [24] (fun iv wr => ∃ (i : Nat), i ≤ os.length ∧ iv = .int .i64 i ∧ Hid (∃ vM vT vS, St I (hou p (hoAt os (min i 100)) vM vT vS M) wr)) (fun iv _ => os.length - (intOf iv).toNat)
  case atStart => exact ⟨0, by omega, rfl, _, _, _, HS.out⟩
  case round =>
    obtain ⟨i, hi, rfl, hh⟩ := hrel
    obtain ⟨vM, vT, vS, hs⟩ := hh.out
    clear hh HS
    by_cases hlt : i < os.length
    · by_cases h100 : 100 ≤ i
      · have h101 : (100 : Int) ≤ i := by omega
        have HX := Lib.hid (show St I (hou p (hoAt os (min (i + 1) 100)) vM vT vS M) wr by rw [show min (i + 1) 100 = min i 100 by omega]; exact hs)
        clear hs h100
        go_wp2
        go_roundw
        case rel => exact ⟨i + 1, by omega, by go_num, _, _, _, HX.out⟩
        case measure => simp [intOf]; omega
      have h99 : (i : Int) < 100 := by omega
      rw [show min i 100 = i by omega] at hs
      obtain ⟨g, o0, rfl, hcell⟩ := HO.out.1 (by omega)
      have hok := HO.out.2 os[i] (List.getElem_mem hlt)
      have hop := hcell i hlt
      have hnx := hoAt_succ hlt
      have HIV := Lib.hid (hoAt_inv os i)
      have HSZ := Lib.hid (hoAt_sz os i)
      obtain ⟨x, hx⟩ : ∃ x, x = os[i] := ⟨_, rfl⟩
      obtain ⟨b, hb⟩ : ∃ b, b = o0 + i * 9 := ⟨_, rfl⟩
      rw [← hx] at hok hop hnx
      rw [← hb] at hop
      have HOK := Lib.hid hok
      have HNX := Lib.hid hnx
      have HI1 := Lib.hid (show min (i + 1) 100 = i + 1 by omega)
      have hbi : o0 + i * 9 = b := hb.symm
      clear hx hb hok hnx hcell h100
      go_upto_region 8 with fail
      replace hs := hs.drew
      have HOP := Lib.hid (fun j hj => hop j hj)
      clear hop
      refine wp_region_held_drew (S := (fun w' => w'.cell? ⟨g, b, none⟩ = some (.int .i64 x.kind) ∧ w'.cell? ⟨g, b + 1, none⟩ = some (.int .i64 x.n) ∧ w'.cell? ⟨g, b + 2, none⟩ = some (.int .i64 x.m) ∧ w'.cell? ⟨g, b + 3, none⟩ = some (.int .i64 x.l) ∧ w'.cell? ⟨g, b + 4, none⟩ = some (.string x.text) ∧ w'.cell? ⟨g, b + 5, none⟩ = some (.string x.room) ∧ w'.cell? ⟨g, b + 6, none⟩ = some (.string x.user) ∧ w'.cell? ⟨g, b + 7, none⟩ = some (.int .i64 x.til) ∧ w'.cell? ⟨g, b + 8, none⟩ = some (.int .i64 x.rights))) (by kernel_rfl) (by (try dsimp only); exact op_cells HOP.out hs) (fun hHeld => ?_)
      generalize World.drew _ = W at hs hHeld ⊢
      refine wpAnyH_take (i := 0) (oi := _) (v := ?_) rfl (by kernel_rfl) (by kernel_rfl) (by kernel_rfl) (fun _ _ _ h => h) (Or.inl ⟨by rfl, ?_⟩) (by assumption) ?_
      rotate_left
      · (intro w hSw; (try dsimp only at hSw); go_simp; try with_reducible rfl)
      try simp only [Act.put, List.getElem_toArray, List.getElem_cons_zero, List.getElem_cons_succ, List.setIfInBounds_toArray, List.set_cons_zero, List.set_cons_succ]
      refine wpAnyH_take (i := 2) (oi := _) (v := ?_) rfl (by kernel_rfl) (by kernel_rfl) (by kernel_rfl) (fun _ _ _ h => h) (Or.inl ⟨by rfl, ?_⟩) (by assumption) ?_
      rotate_left
      · (intro w hSw; (try dsimp only at hSw); go_simp; try with_reducible rfl)
      try simp only [Act.put, List.getElem_toArray, List.getElem_cons_zero, List.getElem_cons_succ, List.setIfInBounds_toArray, List.set_cons_zero, List.set_cons_succ]
      refine wpAnyH_take (i := 3) (oi := _) (v := ?_) rfl (by kernel_rfl) (by kernel_rfl) (by kernel_rfl) (fun _ _ _ h => h) (Or.inl ⟨by rfl, ?_⟩) (by assumption) ?_
      rotate_left
      · (intro w hSw; (try dsimp only at hSw); go_simp; try with_reducible rfl)
      try simp only [Act.put, List.getElem_toArray, List.getElem_cons_zero, List.getElem_cons_succ, List.setIfInBounds_toArray, List.set_cons_zero, List.set_cons_succ]
      refine wpAnyH_take (i := 4) (oi := _) (v := ?_) rfl (by kernel_rfl) (by kernel_rfl) (by kernel_rfl) (fun _ _ _ h => h) (Or.inl ⟨by rfl, ?_⟩) (by assumption) ?_
      rotate_left
      · (intro w hSw; (try dsimp only at hSw); go_simp; try with_reducible rfl)
      try simp only [Act.put, List.getElem_toArray, List.getElem_cons_zero, List.getElem_cons_succ, List.setIfInBounds_toArray, List.set_cons_zero, List.set_cons_succ]
      refine wpAnyH_take (i := 5) (oi := _) (v := ?_) rfl (by kernel_rfl) (by kernel_rfl) (by kernel_rfl) (fun _ _ _ h => h) (Or.inl ⟨by rfl, ?_⟩) (by assumption) ?_
      rotate_left
      · (intro w hSw; (try dsimp only at hSw); go_simp; try with_reducible rfl)
      try simp only [Act.put, List.getElem_toArray, List.getElem_cons_zero, List.getElem_cons_succ, List.setIfInBounds_toArray, List.set_cons_zero, List.set_cons_succ]
      refine wpAnyH_ready (rs := [1]) (by kernel_rfl) (by simp) ?_
      refine (AllReadyH.cons (o := _) rfl (fun K hK => ?_) AllReadyH.nil)
      go_simp
      refine (newR I _ W hs).mono ?_
      rintro e W ⟨_, _, _, rfl, _, hs9, rfl, q, rfl, rfl⟩
      replace hs := hs9.flip4
      clear hs9
      try clear hHeld
      refine hK.out _ _ (by (try dsimp only); exact op_cells HOP.out hs) (fun hHeld => ?_)
      clear hK K
      try simp only [Act.put, List.getElem_toArray, List.getElem_cons_zero, List.getElem_cons_succ, List.setIfInBounds_toArray, List.set_cons_zero, List.set_cons_succ]
      refine wpAnyH_ready (rs := [6]) (by kernel_rfl) (by simp) ?_
      refine (AllReadyH.cons (o := _) rfl (fun K hK => ?_) AllReadyH.nil)
      go_simp
      refine (playC I _ W p q i (hoAt os i) emptyHo _ _ _ _ _ _ x hs HIV.out Inv.empty HSZ.out (Sz.empty _) (by omega) HOK.out).mono ?_
      rintro e W ⟨_, _, _, rfl, _, hs9, rfl, rfl, vM2, vT2, vS2, uM2, uT2, uS2, rfl⟩
      replace hs := hs9.flip4.drop.drop.drop.drop
      clear hs9
      try clear hHeld
      refine hK.out _ _ (by (try dsimp only); exact op_cells HOP.out hs) (fun hHeld => ?_)
      clear hK K
      try simp only [Act.put, List.getElem_toArray, List.getElem_cons_zero, List.getElem_cons_succ, List.setIfInBounds_toArray, List.set_cons_zero, List.set_cons_succ]
      refine wpAnyH_done (by kernel_rfl) ?_ _
      rw [← HNX.out] at hs
      have HS2 := Lib.hid (show ∃ vM vT vS, St I (hou p (hoAt os (min (i + 1) 100)) vM vT vS M) W from ⟨_, _, _, by rw [HI1.out]; exact hs⟩)
      clear hs hHeld hbi
      go_wp2
      go_roundw
      case rel => exact ⟨i + 1, by omega, by go_num, HS2.out⟩
      case measure => simp [intOf]; omega
    · have hi2 : (os.length : Int) ≤ i := by omega
      have HIV := Lib.hid (hoAt_inv os (min i 100))
      have HSZ := Lib.hid ((hoAt_sz os (min i 100)).mono (Nat.min_le_right _ _))
      obtain ⟨h, hh⟩ : ∃ h, h = hoAt os (min i 100) := ⟨_, rfl⟩
      rw [← hh] at hs HIV HSZ
      have HS := Lib.hid hs
      clear hh hs hlt
      go_upto_region 10 with fail
      clear hi2
      go_cut [7] (fun v wx => ∃ n : Int, v = .int .i64 n ∧ wx = wr)
      case first =>
        go_wp2
        go_meet
        exact ⟨_, rfl, rfl⟩
      case rest =>
      obtain ⟨n, rfl, hwc⟩ := hcut
      subst hwc
      obtain ⟨name, e, h1, hro, hle, haf⟩ := after_of HIV.out n
      have HAF := Lib.hid haf
      have HI1 := Lib.hid (show Inv h1 by have := HIV.out.leave n; rw [hle] at this; exact this)
      have HZ1 := Lib.hid (show Sz h1 1000 by have := (HSZ.out.leave n).mono (show 100 + 1 ≤ 1000 by decide); rw [hle] at this; exact this)
      have hms : h.ms.length ≤ 1000000 := by have := HSZ.out.ms; omega
      have hts : h.ts.length ≤ 1000000 := by have := HSZ.out.ts; omega
      have hss : h.ss.length ≤ 1000000 := by have := HSZ.out.ss; omega
      have hms1 : h1.ms.length ≤ 1000000 := by have := HZ1.out.ms; omega
      have hts1 : h1.ts.length ≤ 1000000 := by have := HZ1.out.ts; omega
      have hss1 : h1.ss.length ≤ 1000000 := by have := HZ1.out.ss; omega
      have hlm1 : 0 ≤ h1.lm ∧ h1.lm ≤ 1000000 := ⟨HI1.out.lm0, by have := HZ1.out.lm; omega⟩
      have hmsb : h.ms.length ≤ 140737488351232 := by omega
      have hmsb1 : h1.ms.length ≤ 140737488351232 := by omega
      have hrc := roomC I M _ p h vM vT vS n HS.out hmsb
      rw [hro] at hrc
      have hlc := leaveC I M _ p h vM vT vS n HS.out hms hts hss HIV.out.st0
      rw [hle] at hlc
      clear hro hle haf HS
      have hee : (e == e) = true := by simp
      obtain ⟨tl, htl⟩ : ∃ tl, tl = tracksS h1 name := ⟨_, rfl⟩
      have htin : ∀ t ∈ tl, t ∈ h1.ts := fun t ht => by rw [htl] at ht; exact (List.mem_filter.1 ht).1
      have htll : tl.length ≤ 1000000 := by rw [htl]; exact Nat.le_trans (List.length_filter_le _ _) hts1
      have HTL := Lib.hid htl
      have HTIN := Lib.hid htin
      clear htl htin
      go_upto_region 15 with (first | (go_at_call 14; refine hrc.mono ?_; clear hrc; rintro e2 w2 ⟨hw2, rfl⟩; subst w2) | (go_at_call 15; refine hlc.mono ?_; clear hlc; rintro e2 w2 ⟨_, _, _, rfl, _, hs, rfl, rfl, vM, vT, vS, rfl⟩; have HS := Lib.hid hs; clear hs))
      clear hee
      go_upto_region 17 with (go_at_call 13; refine (tracksC I M _ p h1 _ _ _ name HS.out hts1 hmsb1 HI1.out.tm0).mono ?_; rintro e2 w2 ⟨_, _, _, rfl, _, hs, rfl, B, cb, rfl, rfl⟩; rw [← HTL.out] at hs ⊢; replace HS := Lib.hid hs.dn4; clear hs)
      go_loopw [67] (fun kv wx => ∃ (k : Nat), k ≤ tl.length ∧ kv = .int .i64 k ∧ Hid (St I (hou p h1 vM vT vS (row 47 4 (.slice B tl.length cb) tl.length (flat trkC tl) :: M)) wx)) (fun kv _ => tl.length - (intOf kv).toNat)
      case atStart => exact ⟨0, by omega, rfl, HS.out⟩
      case round =>
        obtain ⟨k, hk, rfl, hh⟩ := hrel
        obtain hs := hh.out
        clear hh HS
        by_cases hkl : k < tl.length
        · obtain ⟨g, rfl, _, hcc, hg, hcell, _⟩ := flat_cell (f := trkC) (s := 4) (l := tl) (fun _ => rfl) hs.up4 (by omega) (by decide)
          have z0 := hcell k hkl 0 (by decide)
          have z1 := hcell k hkl 1 (by decide)
          rw [Nat.add_zero] at z0
          have hxm := HAF.out.ts _ (HTIN.out _ (List.getElem_mem hkl))
          obtain ⟨x, hx⟩ : ∃ x, x = tl[k] := ⟨_, rfl⟩
          rw [← hx] at z0 z1 hxm
          simp only [trkC, List.getElem?_cons_succ, List.getElem?_cons_zero] at z0 z1
          obtain ⟨sl, hsl⟩ : ∃ sl, sl = subsS h1 x.id := ⟨_, rfl⟩
          have hsin : ∀ t ∈ sl, (t.member == n) = false := fun t ht => by rw [hsl] at ht; exact HAF.out.ss t (List.mem_filter.1 ht).1
          have hsll : sl.length ≤ 1000000 := by rw [hsl]; exact Nat.le_trans (List.length_filter_le _ _) hss1
          have HSL := Lib.hid hsl
          have HX := Lib.hid hx
          have HSIN := Lib.hid hsin
          have hsc := subsC I _ _ p h1 _ _ _ x.id hs hss1
          rw [← hsl] at hsc
          have HS := Lib.hid hs
          clear hcell hx hsl hsin hs
          go_upto_region 20 with (go_at_call 16; refine hsc.mono ?_; clear hsc; rintro e2 w2 ⟨_, _, _, rfl, _, hs, rfl, D, cd, rfl, rfl⟩; replace HS := Lib.hid hs.dn4; clear hs)
          obtain ⟨g', e3, _, hcc', hg', hcell, _⟩ := flat_cell (f := trkC) (s := 4) (l := tl) (fun _ => rfl) HS.out.up4.drop.up4 (by omega) (by decide)
          injection e3 with e3
          injection e3 with e3
          subst e3
          clear z0 z1 hg hcc'
          have z1 := hcell k hkl 1 (by decide)
          rw [← HX.out] at z1
          simp only [trkC, List.getElem?_cons_succ, List.getElem?_cons_zero] at z1
          clear hcell
          go_upto_region 23 with fail
          go_loopw [86] (fun jv wx => ∃ (j : Nat), j ≤ sl.length ∧ jv = .int .i64 j ∧ wx = w2) (fun jv _ => sl.length - (intOf jv).toNat)
          case atStart => exact ⟨0, by omega, rfl, rfl⟩
          case round =>
            obtain ⟨j, hj, rfl, hwx⟩ := hrel
            subst hwx
            by_cases hjl : j < sl.length
            · obtain ⟨g5, rfl, _, hcc5, hg5, hcell5, _⟩ := flat_cell (f := sbC) (s := 3) (l := sl) (fun _ => rfl) HS.out.up4 (by omega) (by decide)
              have y0 := hcell5 j hjl 0 (by decide)
              rw [Nat.add_zero] at y0
              have hym := HSIN.out _ (List.getElem_mem hjl)
              obtain ⟨y, hy⟩ : ∃ y, y = sl[j] := ⟨_, rfl⟩
              rw [← hy] at y0 hym
              simp only [sbC, List.getElem?_cons_succ, List.getElem?_cons_zero] at y0
              clear hcell5 hy
              go_wp2
              go_roundw
              case rel => exact ⟨j + 1, by omega, by go_num, trivial⟩
              case measure => simp [intOf]; omega
            · have hj2 : (sl.length : Int) ≤ j := by omega
              have HX2 := Lib.hid HS.out.up4.drop
              clear hjl z1
              go_wp2
              go_roundw
              case rel => exact ⟨k + 1, by omega, by go_num, HX2.out⟩
              case measure => simp [intOf]; omega
        · have hk2 : (tl.length : Int) ≤ k := by omega
          have HS := Lib.hid hs.up4.drop
          have hja := join_after HAF.out usr 0 7
          have hij := HI1.out.join name usr 0 7
          have hzj := HZ1.out.join name usr 0 7
          have hjc := joinC I M _ p h1 _ _ _ name usr 0 7 HS.out hms1 hlm1 HAF.out.sz (by decide) HI1.out.rsz
          obtain ⟨J, hJ⟩ : ∃ J, J = joinS h1 name usr 0 7 := ⟨_, rfl⟩
          rw [← hJ] at hja hij hzj hjc
          obtain ⟨h2, m2, g2⟩ := J
          have HI2 := Lib.hid (show Inv h2 from hij)
          have hz2 : Sz h2 1001 := hzj
          have hms2 : h2.ms.length ≤ 1000000 := by have := hz2.ms; omega
          have hts2 : h2.ts.length ≤ 1000000 := by have := hz2.ts; omega
          have hss2 : h2.ss.length ≤ 1000000 := by have := hz2.ss; omega
          have hmsb2 : h2.ms.length ≤ 140737488351232 := by omega
          have hgone : mem? h2 n = none := hja.2
          have HRO := Lib.hid (show roomS h2 n = (⟨#[]⟩, 7) by unfold roomS; rw [hgone])
          have HLE := Lib.hid (show leaveS h2 n = (h2, 7) by unfold leaveS; rw [if_pos hgone])
          have HG := Lib.hid (show g2 ≠ 0 ∨ m2 ≠ n from hja.1)
          clear hJ hkl hs hja hij hzj hz2 hgone HTL HTIN
          by_cases hg : g2 = 0
          · have hmn : (m2 != n) = true := by
              have := HG.out
              rcases this with h | h
              · exact absurd hg h
              · simpa using h
            subst hg
            go_wp2_with (first | (go_at_call 17; refine hjc.mono ?_; clear hjc; rintro e2 w2 ⟨_, _, _, rfl, _, hs, rfl, rfl, vM, rfl⟩; replace HS := Lib.hid hs; clear hs) | (go_at_call 14; refine (roomC I M _ p h2 _ _ _ n HS.out hmsb2).mono ?_; rw [HRO.out]; rintro e2 w2 ⟨hw2, rfl⟩; subst w2) | (go_at_call 15; refine (leaveC I M _ p h2 _ _ _ n HS.out hms2 hts2 hss2 HI2.out.st0).mono ?_; rw [HLE.out]; rintro e2 w2 ⟨_, _, _, rfl, _, hs, rfl, rfl, _, _, _, rfl⟩; replace HS := Lib.hid hs; clear hs))
            go_returns
            exact Ret.mk (.refl I) HS.out rfl
          · have hg' : (g2 != 0) = true := by simpa using hg
            clear hg
            go_wp2_with (first | (go_at_call 17; refine hjc.mono ?_; clear hjc; rintro e2 w2 ⟨_, _, _, rfl, _, hs, rfl, rfl, vM, rfl⟩; replace HS := Lib.hid hs; clear hs) | (go_at_call 14; refine (roomC I M _ p h2 _ _ _ n HS.out hmsb2).mono ?_; rw [HRO.out]; rintro e2 w2 ⟨hw2, rfl⟩; subst w2) | (go_at_call 15; refine (leaveC I M _ p h2 _ _ _ n HS.out hms2 hts2 hss2 HI2.out.st0).mono ?_; rw [HLE.out]; rintro e2 w2 ⟨_, _, _, rfl, _, hs, rfl, rfl, _, _, _, rfl⟩; replace HS := Lib.hid hs; clear hs))
            go_returns
            exact Ret.mk (.refl I) HS.out rfl
end Go.Proofs.Ytbaobonlolbnpaa
