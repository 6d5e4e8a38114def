/- rostrumlaw23.same. -/
import Derived.Test.YtbaobonlolbnpaaPlA
namespace Go.Proofs.Ytbaobonlolbnpaa
open Go.RowKit
set_option linter.unusedSimpArgs false

theorem own_form2 {w : World} {e s n n' c : Nat} {A : Option Addr} {xs : List Value} (ho : w.ownsRow 0 e s (.slice A n' c) n xs) (h0 : 0 < xs.length) : ∃ g, A = some ⟨g, 0, none⟩ ∧ g < w.heap.size ∧ n ≤ c := by
  have hcap := (own_cap ho).2
  rcases ho.2 with ⟨_, hn⟩ | ⟨g, cap, cur, hv, _, hg, _⟩
  · have := ho.1; rw [hn] at this; omega
  · injection hv with hA
    exact ⟨g, hA, (Array.getElem?_eq_some_iff.1 hg).1, hcap⟩
theorem own_at1 {w : World} {e s n n' c g : Nat} {xs : List Value} (ho : w.ownsRow 0 e s (.slice (some ⟨g, 0, none⟩) n' c) n xs) (k : Nat) (hk : k < xs.length) : w.cell? ⟨g, k, none⟩ = some xs[k] := by
  have := ho.cells (g := g) rfl k xs[k] (by simp [hk])
  rw [add_at, Nat.zero_add] at this
  exact this
theorem own_at {α : Type} {w : World} {f : α → List Value} {e s n' c g : Nat} {l : List α} (hs : ∀ x, (f x).length = s) (ho : w.ownsRow 0 e s (.slice (some ⟨g, 0, none⟩) n' c) l.length (flat f l)) (i : Nat) (hi : i < l.length) (j : Nat) (hj : j < s) : w.cell? ⟨g, i * s + j, none⟩ = (f l[i])[j]? := by
  have hlt : i * s + j < (flat f l).length := by
    rw [flat_len hs]
    have := Nat.mul_le_mul_right s (show i + 1 ≤ l.length by omega)
    rw [Nat.add_mul, Nat.one_mul] at this
    omega
  rw [own_at1 ho _ hlt, ← flat_at hs l i j hi hj, List.getElem?_eq_getElem hlt]
theorem kT {w : World} {n' c g : Nat} {l : List Trk} {i : Nat} {x : Trk} (ho : w.ownsRow 0 47 4 (.slice (some ⟨g, 0, none⟩) n' c) l.length (flat trkC l)) (hi : i < l.length) (hx : x = l[i]) : w.cell? ⟨g, i * 4, none⟩ = some (.int .i64 x.id) := by
  subst hx
  exact own_at (f := trkC) (fun _ => rfl) ho i hi 0 (by decide)
theorem member_fact {h : Ho} (i : Inv h) {name : ByteArray} {id : Int} (hid : id ∈ membersS h name) : ∃ m : Mem, roomS h id = (m.room, 0) ∧ (m.room.toList == name.toList) = true := by
  obtain ⟨m, hm, rfl⟩ := List.mem_map.1 hid
  obtain ⟨h1, h2⟩ := List.mem_filter.1 hm
  obtain ⟨k, hk, rfl⟩ := List.getElem_of_mem h1
  have hf : mem? h h.ms[k].id = some h.ms[k] := by
    refine find_first (key := Mem.id) hk rfl (fun j hj hjk e => ?_)
    have hij : (h.ms.map (·.id))[j]'(by simpa using hj) = (h.ms.map (·.id))[k]'(by simpa using hk) := by
      rw [List.getElem_map, List.getElem_map]; exact e
    have := (List.getElem_inj i.mnd).1 hij
    omega
  exact ⟨h.ms[k], by unfold roomS; rw [hf], h2⟩
abbrev two (p q : Nat) (h : Ho) (vM vT vS uM uT uS : Value) (M : List Res) : List Res := hou p h vM vT vS (houR q h uM uT uS M)
set_option maxRecDepth 16000 in
set_option maxHeartbeats 16000000 in
theorem sameC (I : Img) (M : List Res) (w : World) (p q : Nat) (h : Ho) (vM vT vS uM uT uS : Value) (name : ByteArray) (hst : St I (two p q h vM vT vS uM uT uS M) w) (iv : Inv h) (sz : Sz h 1000000) :
    Calls Try.prog 19 #[.pointer (some ⟨p, 0, none⟩), .pointer (some ⟨q, 0, none⟩), .string name] w (Ret I (fun v J M' => I = J ∧ v = .bool true ∧ M' = two p q h vM vT vS uM uT uS M)) := by
  have HS := Lib.hid hst
  have HI := Lib.hid iv
  have hms := sz.ms
  have hts := sz.ts
  have hss := sz.ss
  have hmsb : h.ms.length ≤ 140737488351232 := by omega
  obtain ⟨ml, hml⟩ : ∃ ml, ml = membersS h name := ⟨_, rfl⟩
  obtain ⟨tl, htl⟩ : ∃ tl, tl = tracksS h name := ⟨_, rfl⟩
  have hmll : ml.length ≤ 1000000 := by rw [hml]; unfold membersS; rw [List.length_map]; exact Nat.le_trans (List.length_filter_le _ _) hms
  have htll : tl.length ≤ 1000000 := by rw [htl]; exact Nat.le_trans (List.length_filter_le _ _) hts
  have HML := Lib.hid hml
  have HTL := Lib.hid htl
  clear hst iv sz hml htl
  go_enter Try.func19, Try.ntmps19
  go_upto_region 3 with (first | (go_at_call 12; refine (membersC I _ _ p h _ _ _ name HS.out hms).mono ?_; rintro e w2 ⟨_, _, _, rfl, _, hs, rfl, A1, c1, rfl, rfl⟩; rw [← HML.out] at hs ⊢; replace HS := Lib.hid hs.dn8; clear hs) | (go_at_call 43; refine (membersR I _ _ q h _ _ _ name HS.out.flip4 hms).mono ?_; rintro e w2 ⟨_, _, _, rfl, _, hs, rfl, A2, c2, rfl, rfl⟩; rw [← HML.out] at hs ⊢; replace HS := Lib.hid hs.dn8.flip4; clear hs) | (go_at_call 13; refine (tracksC I _ _ p h _ _ _ name HS.out hts hmsb HI.out.tm0).mono ?_; rintro e w2 ⟨_, _, _, rfl, _, hs, rfl, A3, c3, rfl, rfl⟩; rw [← HTL.out] at hs ⊢; replace HS := Lib.hid hs.dn8; clear hs) | (go_at_call 44; refine (tracksR I _ _ q h _ _ _ name HS.out.flip4 hts hms HI.out.tm0).mono ?_; rintro e w2 ⟨_, _, _, rfl, _, hs, rfl, A4, c4, rfl, rfl⟩; rw [← HTL.out] at hs ⊢; replace HS := Lib.hid hs.dn8.flip4; clear hs))
  go_upto_region 6 with fail
  go_loopw [44] (fun kv wr => ∃ k : Nat, k ≤ ml.length ∧ kv = .int .i64 k ∧ Hid (St I (two p q h vM vT vS uM uT uS (row 87 4 (.slice A4 tl.length c4) tl.length (flat trkC tl) :: row 47 4 (.slice A3 tl.length c3) tl.length (flat trkC tl) :: row 3 1 (.slice A2 ml.length c2) ml.length (ints ml) :: row 3 1 (.slice A1 ml.length c1) ml.length (ints ml) :: M)) wr)) (fun kv _ => ml.length - (intOf kv).toNat)
  case atStart => exact ⟨0, by omega, rfl, HS.out⟩
  case round =>
    obtain ⟨k, hk, rfl, hh⟩ := hrel
    have hs := hh.out
    clear hh HS
    by_cases hkl : k < ml.length
    · obtain ⟨g1, rfl, hg1, hc1⟩ := own_form2 (hs.at 11 rfl) (by rw [show (ints ml).length = ml.length from List.length_map ..]; omega)
      obtain ⟨g2, rfl, hg2, hc2⟩ := own_form2 (hs.at 10 rfl) (by rw [show (ints ml).length = ml.length from List.length_map ..]; omega)
      have y1 := own_at1 (hs.at 11 rfl) k (by rw [show (ints ml).length = ml.length from List.length_map ..]; exact hkl)
      have y2 := own_at1 (hs.at 10 rfl) k (by rw [show (ints ml).length = ml.length from List.length_map ..]; exact hkl)
      simp only [ints, List.getElem_map] at y1 y2
      obtain ⟨m, hm1, hm2⟩ := member_fact HI.out (name := name) (id := ml[k]) (by rw [← HML.out]; exact List.getElem_mem hkl)
      obtain ⟨id, hid⟩ : ∃ id, id = ml[k] := ⟨_, rfl⟩
      rw [← hid] at y1 y2 hm1
      have hrc := roomC I _ _ p h _ _ _ id hs hmsb
      rw [hm1] at hrc
      obtain ⟨rg, hrg⟩ : ∃ rg, rg = rightsS h id := ⟨_, rfl⟩
      have HC1 := Lib.hid (fun n => (rightsC I _ _ p h _ _ _ id (hs.drewN n) hmsb).mono (R' := fun e w' => e = .returned (.int .i64 rg) ∧ w' = _) fun e w' ⟨h1, h2⟩ => ⟨by rw [h2, hrg], h1.symm⟩)
      have HC2 := Lib.hid (fun n => (rightsR I _ _ q h _ _ _ id (hs.flip4.drewN n) hms).mono (R' := fun e w' => e = .returned (.int .i64 rg) ∧ w' = _) fun e w' ⟨h1, h2⟩ => ⟨by rw [h1, hrg], h2⟩)
      have HS := Lib.hid hs
      clear hs hid hm1 hrg
      go_upto_region 9 with (go_at_call 14; refine hrc.mono ?_; clear hrc; rintro e2 w2 ⟨hw2, rfl⟩; subst w2)
      go_quiet ((first | (go_at_call 18; with_reducible exact Calls.quiet_of_same (HC1.out _)) | (go_at_call 21; with_reducible exact Calls.quiet_of_same (HC2.out _))))
      have HX := Lib.hid (HS.out.drewN nq)
      go_wp2
      go_roundw
      case rel => exact ⟨k + 1, by omega, by go_num, HX.out⟩
      case measure => simp [intOf]; omega
    · have hk2 : (ml.length : Int) ≤ k := by omega
      have HS := Lib.hid hs
      clear hs
      go_upto_region 13 with fail
      try simp only [decide_eq_false hkl]
      clear hkl hk2
      go_loopw [92] (fun kv wr => ∃ k : Nat, k ≤ tl.length ∧ kv = .int .i64 k ∧ Hid (St I (two p q h vM vT vS uM uT uS (row 87 4 (.slice A4 tl.length c4) tl.length (flat trkC tl) :: row 47 4 (.slice A3 tl.length c3) tl.length (flat trkC tl) :: row 3 1 (.slice A2 ml.length c2) ml.length (ints ml) :: row 3 1 (.slice A1 ml.length c1) ml.length (ints ml) :: M)) wr)) (fun kv _ => tl.length - (intOf kv).toNat)
      case atStart => exact ⟨0, by omega, rfl, HS.out⟩
      case round =>
        obtain ⟨i, hi, rfl, hh⟩ := hrel
        have hs := hh.out
        clear hh HS
        by_cases hil : i < tl.length
        · have hfl : 0 < (flat trkC tl).length := by rw [flat_len (f := trkC) (s := 4) (fun _ => rfl)]; omega
          obtain ⟨g3, rfl, hg3, hc3⟩ := own_form2 (hs.at 9 rfl) hfl
          obtain ⟨g4, rfl, hg4, hc4⟩ := own_form2 (hs.at 8 rfl) hfl
          have y0 := own_at (f := trkC) (fun _ => rfl) (hs.at 9 rfl) i hil 0 (by decide)
          have y1 := own_at (f := trkC) (fun _ => rfl) (hs.at 9 rfl) i hil 1 (by decide)
          have y2 := own_at (f := trkC) (fun _ => rfl) (hs.at 9 rfl) i hil 2 (by decide)
          have y3 := own_at (f := trkC) (fun _ => rfl) (hs.at 9 rfl) i hil 3 (by decide)
          have z0 := own_at (f := trkC) (fun _ => rfl) (hs.at 8 rfl) i hil 0 (by decide)
          have z1 := own_at (f := trkC) (fun _ => rfl) (hs.at 8 rfl) i hil 1 (by decide)
          have z2 := own_at (f := trkC) (fun _ => rfl) (hs.at 8 rfl) i hil 2 (by decide)
          have z3 := own_at (f := trkC) (fun _ => rfl) (hs.at 8 rfl) i hil 3 (by decide)
          rw [Nat.add_zero] at y0 z0
          obtain ⟨x, hx⟩ : ∃ x, x = tl[i] := ⟨_, rfl⟩
          rw [← hx] at y0 y1 y2 y3 z0 z1 z2 z3
          simp only [trkC, List.getElem?_cons_succ, List.getElem?_cons_zero] at y0 y1 y2 y3 z0 z1 z2 z3
          have HX := Lib.hid hx
          have HS := Lib.hid hs
          clear hx hs hfl
          go_upto_region 15 with fail
          go_quiet (fail)
          replace HS := Lib.hid (HS.out.drewN nq)
          generalize World.drewN wr nq = wq at HS ⊢
          clear y0 y1 y2 y3 z0 z1 z2 z3 hg3 hg4
          obtain ⟨sl, hsl⟩ : ∃ sl, sl = subsS h x.id := ⟨_, rfl⟩
          have hsll : sl.length ≤ 1000000 := by rw [hsl]; exact Nat.le_trans (List.length_filter_le _ _) hss
          have HSL := Lib.hid hsl
          clear hsl
          go_upto_region 17 with fail
          have hs := HS.out.drew
          clear HS
          refine wp_region_held_drew (S := (fun w' => w'.cell? ⟨g3, i * 4, none⟩ = some (.int .i64 x.id))) (by kernel_rfl) (by (try dsimp only); first | exact kT (hs.at 9 rfl) hil HX.out | exact kT (hs.at 10 rfl) hil HX.out | exact kT (hs.at 11 rfl) hil HX.out) (fun hHeld => ?_)
          generalize World.drew _ = W at hs hHeld ⊢
          refine wpAnyH_take (i := 0) (oi := _) (v := ?_) rfl (by kernel_rfl) (by kernel_rfl) (by kernel_rfl) (fun _ _ _ h => h) (Or.inl ⟨by rfl, ?_⟩) (by assumption) ?_
          rotate_left
          · (intro w hSw; (try dsimp only at hSw); go_simp; try with_reducible rfl)
          try simp only [Act.put, List.getElem_toArray, List.getElem_cons_zero, List.getElem_cons_succ, List.setIfInBounds_toArray, List.set_cons_zero, List.set_cons_succ]
          refine wpAnyH_take (i := 1) (oi := _) (v := ?_) rfl (by kernel_rfl) (by kernel_rfl) (by kernel_rfl) (fun _ _ _ h => h) (Or.inl ⟨by rfl, ?_⟩) (by assumption) ?_
          rotate_left
          · (intro w hSw; (try dsimp only at hSw); go_simp; try with_reducible rfl)
          try simp only [Act.put, List.getElem_toArray, List.getElem_cons_zero, List.getElem_cons_succ, List.setIfInBounds_toArray, List.set_cons_zero, List.set_cons_succ]
          refine wpAnyH_take (i := 2) (oi := _) (v := ?_) rfl (by kernel_rfl) (by kernel_rfl) (by kernel_rfl) (fun _ _ _ h => h) (Or.inl ⟨by rfl, ?_⟩) (by assumption) ?_
          rotate_left
          · (intro w hSw; (try dsimp only at hSw); go_simp; try with_reducible rfl)
          try simp only [Act.put, List.getElem_toArray, List.getElem_cons_zero, List.getElem_cons_succ, List.setIfInBounds_toArray, List.set_cons_zero, List.set_cons_succ]
          refine wpAnyH_take (i := 3) (oi := _) (v := ?_) rfl (by kernel_rfl) (by kernel_rfl) (by kernel_rfl) (fun _ _ _ h => h) (Or.inl ⟨by rfl, ?_⟩) (by assumption) ?_
          rotate_left
          · (intro w hSw; (try dsimp only at hSw); go_simp; try with_reducible rfl)
          try simp only [Act.put, List.getElem_toArray, List.getElem_cons_zero, List.getElem_cons_succ, List.setIfInBounds_toArray, List.set_cons_zero, List.set_cons_succ]
          refine wpAnyH_take (i := 4) (oi := _) (v := ?_) rfl (by kernel_rfl) (by kernel_rfl) (by kernel_rfl) (fun _ _ _ h => h) (Or.inl ⟨by rfl, ?_⟩) (by assumption) ?_
          rotate_left
          · (intro w hSw; (try dsimp only at hSw); go_simp; try with_reducible rfl)
          try simp only [Act.put, List.getElem_toArray, List.getElem_cons_zero, List.getElem_cons_succ, List.setIfInBounds_toArray, List.set_cons_zero, List.set_cons_succ]
          refine wpAnyH_take (i := 5) (oi := _) (v := ?_) rfl (by kernel_rfl) (by kernel_rfl) (by kernel_rfl) (fun _ _ _ h => h) (Or.inl ⟨by rfl, ?_⟩) (by assumption) ?_
          rotate_left
          · (intro w hSw; (try dsimp only at hSw); go_simp; try with_reducible rfl)
          try simp only [Act.put, List.getElem_toArray, List.getElem_cons_zero, List.getElem_cons_succ, List.setIfInBounds_toArray, List.set_cons_zero, List.set_cons_succ]
          refine wpAnyH_take (i := 7) (oi := _) (v := ?_) rfl (by kernel_rfl) (by kernel_rfl) (by kernel_rfl) (fun _ _ _ h => h) (Or.inl ⟨by rfl, ?_⟩) (by assumption) ?_
          rotate_left
          · (intro w hSw; (try dsimp only at hSw); go_simp; try with_reducible rfl)
          try simp only [Act.put, List.getElem_toArray, List.getElem_cons_zero, List.getElem_cons_succ, List.setIfInBounds_toArray, List.set_cons_zero, List.set_cons_succ]
          refine wpAnyH_take (i := 8) (oi := _) (v := ?_) rfl (by kernel_rfl) (by kernel_rfl) (by kernel_rfl) (fun _ _ _ h => h) (Or.inl ⟨by rfl, ?_⟩) (by assumption) ?_
          rotate_left
          · (intro w hSw; (try dsimp only at hSw); go_simp; try with_reducible rfl)
          try simp only [Act.put, List.getElem_toArray, List.getElem_cons_zero, List.getElem_cons_succ, List.setIfInBounds_toArray, List.set_cons_zero, List.set_cons_succ]
          refine wpAnyH_take (i := 9) (oi := _) (v := ?_) rfl (by kernel_rfl) (by kernel_rfl) (by kernel_rfl) (fun _ _ _ h => h) (Or.inl ⟨by rfl, ?_⟩) (by assumption) ?_
          rotate_left
          · (intro w hSw; (try dsimp only at hSw); go_simp; try with_reducible rfl)
          try simp only [Act.put, List.getElem_toArray, List.getElem_cons_zero, List.getElem_cons_succ, List.setIfInBounds_toArray, List.set_cons_zero, List.set_cons_succ]
          refine wpAnyH_take (i := 10) (oi := _) (v := ?_) rfl (by kernel_rfl) (by kernel_rfl) (by kernel_rfl) (fun _ _ _ h => h) (Or.inl ⟨by rfl, ?_⟩) (by assumption) ?_
          rotate_left
          · (intro w hSw; (try dsimp only at hSw); go_simp; try with_reducible rfl)
          try simp only [Act.put, List.getElem_toArray, List.getElem_cons_zero, List.getElem_cons_succ, List.setIfInBounds_toArray, List.set_cons_zero, List.set_cons_succ]
          refine wpAnyH_take (i := 11) (oi := _) (v := ?_) rfl (by kernel_rfl) (by kernel_rfl) (by kernel_rfl) (fun _ _ _ h => h) (Or.inl ⟨by rfl, ?_⟩) (by assumption) ?_
          rotate_left
          · (intro w hSw; (try dsimp only at hSw); go_simp; try with_reducible rfl)
          try simp only [Act.put, List.getElem_toArray, List.getElem_cons_zero, List.getElem_cons_succ, List.setIfInBounds_toArray, List.set_cons_zero, List.set_cons_succ]
          refine wpAnyH_take (i := 12) (oi := _) (v := ?_) rfl (by kernel_rfl) (by kernel_rfl) (by kernel_rfl) (fun _ _ _ h => h) (Or.inl ⟨by rfl, ?_⟩) (by assumption) ?_
          rotate_left
          · (intro w hSw; (try dsimp only at hSw); go_simp; try with_reducible rfl)
          try simp only [Act.put, List.getElem_toArray, List.getElem_cons_zero, List.getElem_cons_succ, List.setIfInBounds_toArray, List.set_cons_zero, List.set_cons_succ]
          refine wpAnyH_ready (rs := [6]) (by kernel_rfl) (by simp) ?_
          refine (AllReadyH.cons (o := _) rfl (fun K hK => ?_) AllReadyH.nil)
          go_simp
          refine (subsC I _ W p h _ _ _ x.id hs hss).mono ?_
          rintro e W ⟨_, _, _, rfl, _, hs9, rfl, A5, c5, rfl, rfl⟩
          rw [← HSL.out] at hs9 ⊢
          replace hs := hs9.dn8
          clear hs9
          try clear hHeld
          refine hK.out _ _ (by (try dsimp only); first | exact kT (hs.at 9 rfl) hil HX.out | exact kT (hs.at 10 rfl) hil HX.out | exact kT (hs.at 11 rfl) hil HX.out) (fun hHeld => ?_)
          clear hK K
          try simp only [Act.put, List.getElem_toArray, List.getElem_cons_zero, List.getElem_cons_succ, List.setIfInBounds_toArray, List.set_cons_zero, List.set_cons_succ]
          refine wpAnyH_ready (rs := [13]) (by kernel_rfl) (by simp) ?_
          refine (AllReadyH.cons (o := _) rfl (fun K hK => ?_) AllReadyH.nil)
          go_simp
          refine (subsR I _ W q h _ _ _ x.id hs.flip4 hss).mono ?_
          rintro e W ⟨_, _, _, rfl, _, hs9, rfl, A6, c6, rfl, rfl⟩
          rw [← HSL.out] at hs9 ⊢
          replace hs := hs9.dn8.flip4
          clear hs9
          try clear hHeld
          refine hK.out _ _ (by (try dsimp only); first | exact kT (hs.at 9 rfl) hil HX.out | exact kT (hs.at 10 rfl) hil HX.out | exact kT (hs.at 11 rfl) hil HX.out) (fun hHeld => ?_)
          clear hK K
          try simp only [Act.put, List.getElem_toArray, List.getElem_cons_zero, List.getElem_cons_succ, List.setIfInBounds_toArray, List.set_cons_zero, List.set_cons_succ]
          refine wpAnyH_take (i := 14) (oi := _) (v := ?_) rfl (by kernel_rfl) (by kernel_rfl) (by kernel_rfl) (fun _ _ _ h => h) (Or.inl ⟨by rfl, ?_⟩) (by assumption) ?_
          rotate_left
          · (intro w hSw; (try dsimp only at hSw); go_simp; try with_reducible rfl)
          try simp only [Act.put, List.getElem_toArray, List.getElem_cons_zero, List.getElem_cons_succ, List.setIfInBounds_toArray, List.set_cons_zero, List.set_cons_succ]
          refine wpAnyH_take (i := 15) (oi := _) (v := ?_) rfl (by kernel_rfl) (by kernel_rfl) (by kernel_rfl) (fun _ _ _ h => h) (Or.inl ⟨by rfl, ?_⟩) (by assumption) ?_
          rotate_left
          · (intro w hSw; (try dsimp only at hSw); go_simp; try with_reducible rfl)
          try simp only [Act.put, List.getElem_toArray, List.getElem_cons_zero, List.getElem_cons_succ, List.setIfInBounds_toArray, List.set_cons_zero, List.set_cons_succ]
          refine wpAnyH_done (by kernel_rfl) ?_ _
          have HS := Lib.hid hs
          clear hs hHeld
          go_upto_region 21 with fail
          go_loopw [166] (fun jv wx => ∃ j : Nat, j ≤ sl.length ∧ jv = .int .i64 j ∧ Hid (St I (two p q h vM vT vS uM uT uS (row 88 3 (.slice A6 sl.length c6) sl.length (flat sbC sl) :: row 49 3 (.slice A5 sl.length c5) sl.length (flat sbC sl) :: row 87 4 (.slice (some ⟨g4, 0, none⟩) tl.length c4) tl.length (flat trkC tl) :: row 47 4 (.slice (some ⟨g3, 0, none⟩) tl.length c3) tl.length (flat trkC tl) :: row 3 1 (.slice A2 ml.length c2) ml.length (ints ml) :: row 3 1 (.slice A1 ml.length c1) ml.length (ints ml) :: M)) wx)) (fun jv _ => sl.length - (intOf jv).toNat)
          case atStart => exact ⟨0, by omega, rfl, HS.out⟩
          case round =>
            obtain ⟨j, hj, rfl, hh⟩ := hrel
            have hs := hh.out
            clear hh HS
            by_cases hjl : j < sl.length
            · have hfl : 0 < (flat sbC sl).length := by rw [flat_len (f := sbC) (s := 3) (fun _ => rfl)]; omega
              obtain ⟨g5, rfl, hg5, hc5⟩ := own_form2 (hs.at 9 rfl) hfl
              obtain ⟨g6, rfl, hg6, hc6⟩ := own_form2 (hs.at 8 rfl) hfl
              have y0 := own_at (f := sbC) (fun _ => rfl) (hs.at 9 rfl) j hjl 0 (by decide)
              have y1 := own_at (f := sbC) (fun _ => rfl) (hs.at 9 rfl) j hjl 1 (by decide)
              have y2 := own_at (f := sbC) (fun _ => rfl) (hs.at 9 rfl) j hjl 2 (by decide)
              have z0 := own_at (f := sbC) (fun _ => rfl) (hs.at 8 rfl) j hjl 0 (by decide)
              have z1 := own_at (f := sbC) (fun _ => rfl) (hs.at 8 rfl) j hjl 1 (by decide)
              have z2 := own_at (f := sbC) (fun _ => rfl) (hs.at 8 rfl) j hjl 2 (by decide)
              rw [Nat.add_zero] at y0 z0
              obtain ⟨y, hy⟩ : ∃ y, y = sl[j] := ⟨_, rfl⟩
              rw [← hy] at y0 y1 y2 z0 z1 z2
              simp only [sbC, List.getElem?_cons_succ, List.getElem?_cons_zero] at y0 y1 y2 z0 z1 z2
              have HS := Lib.hid hs
              clear hy hs hfl
              go_upto_region 23 with fail
              go_quiet (fail)
              have HX2 := Lib.hid (HS.out.drewN nq)
              go_wp2
              go_roundw
              case rel => exact ⟨j + 1, by omega, by go_num, HX2.out⟩
              case measure => simp [intOf]; omega
            · have hj2 : (sl.length : Int) ≤ j := by omega
              have HX2 := Lib.hid hs.up8.drop.up8.drop
              clear hjl hs
              go_wp2
              go_roundw
              case rel => exact ⟨i + 1, by omega, by go_num, HX2.out⟩
              case measure => simp [intOf]; omega
        · have hi2 : (tl.length : Int) ≤ i := by omega
          have HX := Lib.hid hs.up8.drop.up8.drop.up8.drop.up8.drop
          clear hil hs
          go_wp2
          go_returns
          exact Ret.mk (.refl I) HX.out ⟨rfl, rfl, rfl⟩
end Go.Proofs.Ytbaobonlolbnpaa
