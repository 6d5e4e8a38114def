/- rostrumref23.House: words; member, track, Room, Rights, Members, Tracks, Subs. -/
import Derived.Test.YtbaobonlolbnpaaRoK
namespace Go.Proofs.Ytbaobonlolbnpaa
open Go.RowKit
set_option linter.unusedSimpArgs false

abbrev houR (p : Nat) (h : Ho) (vM vT vS : Value) (M : List Res) : List Res := row 90 5 vM h.ms.length (flat memC h.ms) :: row 87 4 vT h.ts.length (flat trkC h.ts) :: row 88 3 vS h.ss.length (flat sbC h.ss) :: bk p 71 #[vM, vT, vS, .int .i64 h.lm, .int .i64 h.li] :: M
theorem newR (I : Img) (M : List Res) (w : World) (hst : St I M w) :
    Calls Try.prog 11 #[] w (Ret I (fun v J M' => I = J ∧ ∃ p, v = .pointer (some ⟨p, 0, none⟩) ∧ M' = houR p emptyHo (.slice none 0 0) (.slice none 0 0) (.slice none 0 0) M)) := by
  have hs := (((hst.alloc 71 #[.slice none 0 0, .slice none 0 0, .slice none 0 0, .int .i64 0, .int .i64 0]).nil (e := 88) (size := 3)).nil (e := 87) (size := 4)).nil (e := 90) (size := 5)
  have HS := Lib.hid hs
  clear hs hst
  go_enter Try.func11, Try.ntmps11
  go_wp2
  go_returns
  exact Ret.mk (.refl I) HS.out ⟨rfl, _, rfl, rfl⟩

set_option maxHeartbeats 1000000 in
theorem memR (I : Img) (M : List Res) (w : World) (p : Nat) (h : Ho) (vM vT vS : Value) (id : Int) (hst : St I (houR p h vM vT vS M) w) (hl : h.ms.length ≤ 1000000) :
    Calls Try.prog 45 #[.pointer (some ⟨p, 0, none⟩), .int .i64 id] w fun e w' => e = .returned (.int .i64 (idx (fun x => x.id == id) h.ms)) ∧ w' = w := by
  obtain ⟨hcP, _, hlP⟩ := Blk.all (hst.at 3 rfl)
  obtain ⟨A, c, rfl⟩ := own_form (show w.ownsRow 0 90 5 vM _ _ from hst.head)
  have HST := Lib.hid hst
  clear hst
  go_enter Try.func45, Try.ntmps45
  go_wp2
  go_loopw [11] (fun iv wr => ∃ k : Nat, k ≤ h.ms.length ∧ iv = .int .i64 k ∧ wr = w ∧ Hid (∀ j (hj : j < h.ms.length), j < k → (h.ms[j].id == id) = false)) (fun iv _ => h.ms.length - (intOf iv).toNat)
  case atStart => exact ⟨0, by omega, rfl, rfl, fun j hj h => by omega⟩
  case round =>
    obtain ⟨k, hk, rfl, hwr, hno⟩ := hrel
    subst wr
    by_cases hlt : k < h.ms.length
    · obtain ⟨g, rfl, _, hcc, hg, hcell, _⟩ := flat_cell (f := memC) (s := 5) (fun _ => rfl) HST.out (by omega) (by decide)
      have z0 := hcell k hlt 0 (by decide)
      rw [Nat.add_zero] at z0
      obtain ⟨x, hx⟩ : ∃ x, x = h.ms[k] := ⟨_, rfl⟩
      rw [← hx] at z0
      have z0 : w.cell? ⟨g, k * 5, none⟩ = some (.int .i64 x.id) := z0
      have HX := Lib.hid hx
      clear hcell hx
      cases hb : (x.id == id)
      · have HNO := Lib.hid (show ∀ j (hj : j < h.ms.length), j < k + 1 → (h.ms[j].id == id) = false from fun j hj h1 => by
          by_cases e : j = k
          · subst e; rw [← HX.out]; exact hb
          · exact hno.out j hj (by omega))
        clear hno
        go_wp2
        go_roundw
        case rel => exact ⟨k + 1, by omega, by go_num, trivial, HNO⟩
        case measure => simp [intOf]; omega
      · have HE := Lib.hid (show idx (fun x => x.id == id) h.ms = (k : Int) from idx_hit hlt (by rw [← HX.out]; exact hb) hno.out)
        go_wp2
        go_returns
        exact ⟨ret_eq (by rw [HE.out]; rfl), rfl⟩
    · have HE := Lib.hid (show idx (fun x => x.id == id) h.ms = -1 from idx_none (fun j hj => hno.out j hj (by omega)))
      have hk2 : (h.ms.length : Int) ≤ k := by omega
      clear hlt hno
      go_wp2
      go_returns
      exact ⟨ret_eq (by rw [HE.out]; rfl), rfl⟩
set_option maxHeartbeats 1000000 in
theorem trkR (I : Img) (M : List Res) (w : World) (p : Nat) (h : Ho) (vM vT vS : Value) (id : Int) (hst : St I (houR p h vM vT vS M) w) (hl : h.ts.length ≤ 1000000) :
    Calls Try.prog 52 #[.pointer (some ⟨p, 0, none⟩), .int .i64 id] w fun e w' => e = .returned (.int .i64 (idx (fun x => x.id == id) h.ts)) ∧ w' = w := by
  obtain ⟨hcP, _, hlP⟩ := Blk.all (hst.at 3 rfl)
  obtain ⟨A, c, rfl⟩ := own_form (show w.ownsRow 0 87 4 vT _ _ from hst.swap1.head)
  have HST := Lib.hid hst
  clear hst
  go_enter Try.func52, Try.ntmps52
  go_wp2
  go_loopw [11] (fun iv wr => ∃ k : Nat, k ≤ h.ts.length ∧ iv = .int .i64 k ∧ wr = w ∧ Hid (∀ j (hj : j < h.ts.length), j < k → (h.ts[j].id == id) = false)) (fun iv _ => h.ts.length - (intOf iv).toNat)
  case atStart => exact ⟨0, by omega, rfl, rfl, fun j hj h => by omega⟩
  case round =>
    obtain ⟨k, hk, rfl, hwr, hno⟩ := hrel
    subst wr
    by_cases hlt : k < h.ts.length
    · obtain ⟨g, rfl, _, hcc, hg, hcell, _⟩ := flat_cell (f := trkC) (s := 4) (fun _ => rfl) HST.out.swap1 (by omega) (by decide)
      have z0 := hcell k hlt 0 (by decide)
      rw [Nat.add_zero] at z0
      obtain ⟨x, hx⟩ : ∃ x, x = h.ts[k] := ⟨_, rfl⟩
      rw [← hx] at z0
      have z0 : w.cell? ⟨g, k * 4, none⟩ = some (.int .i64 x.id) := z0
      have HX := Lib.hid hx
      clear hcell hx
      cases hb : (x.id == id)
      · have HNO := Lib.hid (show ∀ j (hj : j < h.ts.length), j < k + 1 → (h.ts[j].id == id) = false from fun j hj h1 => by
          by_cases e : j = k
          · subst e; rw [← HX.out]; exact hb
          · exact hno.out j hj (by omega))
        clear hno
        go_wp2
        go_roundw
        case rel => exact ⟨k + 1, by omega, by go_num, trivial, HNO⟩
        case measure => simp [intOf]; omega
      · have HE := Lib.hid (show idx (fun x => x.id == id) h.ts = (k : Int) from idx_hit hlt (by rw [← HX.out]; exact hb) hno.out)
        go_wp2
        go_returns
        exact ⟨ret_eq (by rw [HE.out]; rfl), rfl⟩
    · have HE := Lib.hid (show idx (fun x => x.id == id) h.ts = -1 from idx_none (fun j hj => hno.out j hj (by omega)))
      have hk2 : (h.ts.length : Int) ≤ k := by omega
      clear hlt hno
      go_wp2
      go_returns
      exact ⟨ret_eq (by rw [HE.out]; rfl), rfl⟩
theorem idx_mem (h : Ho) (id : Int) : (idx (fun x : Mem => x.id == id) h.ms = -1 ∧ mem? h id = none) ∨ ∃ i, ∃ hi : i < h.ms.length, idx (fun x : Mem => x.id == id) h.ms = i ∧ mem? h id = some h.ms[i] := by
  rcases idx_ways (fun x : Mem => x.id == id) h.ms with ⟨e, hno⟩ | ⟨i, hi, e, hp, hno⟩
  · exact .inl ⟨e, find_none (key := Mem.id) (fun j hj => by simpa using hno _ (List.getElem_mem hj))⟩
  · exact .inr ⟨i, hi, e, find_first (key := Mem.id) hi (by simpa using hp) (fun j hj hji => by simpa using hno j hj hji)⟩
theorem idx_trk (h : Ho) (id : Int) : (idx (fun x : Trk => x.id == id) h.ts = -1 ∧ trk? h id = none) ∨ ∃ i, ∃ hi : i < h.ts.length, idx (fun x : Trk => x.id == id) h.ts = i ∧ trk? h id = some h.ts[i] := by
  rcases idx_ways (fun x : Trk => x.id == id) h.ts with ⟨e, hno⟩ | ⟨i, hi, e, hp, hno⟩
  · exact .inl ⟨e, find_none (key := Trk.id) (fun j hj => by simpa using hno _ (List.getElem_mem hj))⟩
  · exact .inr ⟨i, hi, e, find_first (key := Trk.id) hi (by simpa using hp) (fun j hj hji => by simpa using hno j hj hji)⟩
set_option maxHeartbeats 1000000 in
theorem roomR (I : Img) (M : List Res) (w : World) (p : Nat) (h : Ho) (vM vT vS : Value) (id : Int) (hst : St I (houR p h vM vT vS M) w) (hl : h.ms.length ≤ 1000000) :
    Calls Try.prog 20 #[.pointer (some ⟨p, 0, none⟩), .int .i64 id] w fun e w' => e = .returned (.tuple #[.string (roomS h id).1, .int .i64 (roomS h id).2]) ∧ w' = w := by
  obtain ⟨A, c, rfl⟩ := own_form (show w.ownsRow 0 90 5 vM _ _ from hst.head)
  have hm := memR I M w p h _ vT vS id hst hl
  obtain ⟨hcP, _, hlP⟩ := Blk.all (hst.at 3 rfl)
  have HST := Lib.hid hst
  clear hst
  rcases idx_mem h id with ⟨e, hf⟩ | ⟨i, hi, e, hf⟩
  · rw [e] at hm
    have HE := Lib.hid (show roomS h id = (⟨#[]⟩, 7) by unfold roomS; rw [hf])
    clear hf e
    go_enter Try.func20, Try.ntmps20
    go_wp2_with (go_at_call 45; refine hm.mono ?_; clear hm; rintro e w2 ⟨rfl, hw2⟩; subst w2)
    go_returns
    exact ⟨ret_eq (by rw [HE.out]; rfl), rfl⟩
  · rw [e] at hm
    obtain ⟨g, rfl, _, hcc, hg, hcell, _⟩ := flat_cell (f := memC) (s := 5) (fun _ => rfl) HST.out (by omega) (by decide)
    have z1 := hcell i hi 1 (by decide)
    obtain ⟨m, hm2⟩ : ∃ m, m = h.ms[i] := ⟨_, rfl⟩
    rw [← hm2] at z1 hf
    simp only [memC, List.getElem?_cons_succ, List.getElem?_cons_zero] at z1
    have HE := Lib.hid (show roomS h id = (m.room, 0) by unfold roomS; rw [hf])
    clear hf e hcell hm2
    go_enter Try.func20, Try.ntmps20
    go_wp2_with (go_at_call 45; refine hm.mono ?_; clear hm; rintro e w2 ⟨rfl, hw2⟩; subst w2)
    go_returns
    exact ⟨ret_eq (by rw [HE.out]; rfl), rfl⟩
set_option maxHeartbeats 1000000 in
theorem rightsR (I : Img) (M : List Res) (w : World) (p : Nat) (h : Ho) (vM vT vS : Value) (id : Int) (hst : St I (houR p h vM vT vS M) w) (hl : h.ms.length ≤ 1000000) :
    Calls Try.prog 21 #[.pointer (some ⟨p, 0, none⟩), .int .i64 id] w fun e w' => e = .returned (.int .i64 (rightsS h id)) ∧ w' = w := by
  obtain ⟨A, c, rfl⟩ := own_form (show w.ownsRow 0 90 5 vM _ _ from hst.head)
  have hm := memR I M w p h _ vT vS id hst hl
  obtain ⟨hcP, _, hlP⟩ := Blk.all (hst.at 3 rfl)
  have HST := Lib.hid hst
  clear hst
  rcases idx_mem h id with ⟨e, hf⟩ | ⟨i, hi, e, hf⟩
  · rw [e] at hm
    have HE := Lib.hid (show rightsS h id = 0 by unfold rightsS; rw [hf])
    clear hf e
    go_enter Try.func21, Try.ntmps21
    go_wp2_with (go_at_call 45; refine hm.mono ?_; clear hm; rintro e w2 ⟨rfl, hw2⟩; subst w2)
    go_returns
    exact ⟨ret_eq (by rw [HE.out]; rfl), rfl⟩
  · rw [e] at hm
    obtain ⟨g, rfl, _, hcc, hg, hcell, _⟩ := flat_cell (f := memC) (s := 5) (fun _ => rfl) HST.out (by omega) (by decide)
    have z1 := hcell i hi 4 (by decide)
    obtain ⟨m, hm2⟩ : ∃ m, m = h.ms[i] := ⟨_, rfl⟩
    rw [← hm2] at z1 hf
    simp only [memC, List.getElem?_cons_succ, List.getElem?_cons_zero] at z1
    have HE := Lib.hid (show rightsS h id = m.rights by unfold rightsS; rw [hf])
    clear hf e hcell hm2
    go_enter Try.func21, Try.ntmps21
    go_wp2_with (go_at_call 45; refine hm.mono ?_; clear hm; rintro e w2 ⟨rfl, hw2⟩; subst w2)
    go_returns
    exact ⟨ret_eq (by rw [HE.out]; rfl), rfl⟩
theorem info88 : (Try.prog.info? 88).map (fun i => (i.zero, i.size, i.bytes)) = some (some (.agg #[.int .i64 0, .int .i64 0, .int .i64 0]), 3, 24) := by kernel_rfl
theorem info87 : (Try.prog.info? 87).map (fun i => (i.zero, i.size, i.bytes)) = some (some (.agg #[.int .i64 0, .int .i64 0, .string ⟨#[]⟩, .int .i64 0]), 4, 40) := by kernel_rfl
theorem info90 : (Try.prog.info? 90).map (fun i => (i.zero, i.size, i.bytes)) = some (some (.agg #[.int .i64 0, .string ⟨#[]⟩, .string ⟨#[]⟩, .int .i64 0, .int .i64 0]), 5, 56) := by kernel_rfl
set_option maxRecDepth 8000 in
set_option maxHeartbeats 4000000 in
theorem membersR (I : Img) (M : List Res) (w : World) (p : Nat) (h : Ho) (vM vT vS : Value) (name : ByteArray) (hst : St I (houR p h vM vT vS M) w) (hl : h.ms.length ≤ 1000000) :
    Calls Try.prog 43 #[.pointer (some ⟨p, 0, none⟩), .string name] w (Ret I (fun v J M' => I = J ∧ ∃ A c, v = .slice A (membersS h name).length c ∧ M' = row 3 1 (.slice A (membersS h name).length c) (membersS h name).length (ints (membersS h name)) :: houR p h vM vT vS M)) := by
  obtain ⟨hcP, _, hlP⟩ := Blk.all (hst.at 3 rfl)
  obtain ⟨A, c, rfl⟩ := own_form (show w.ownsRow 0 90 5 vM _ _ from hst.at 0 rfl)
  obtain ⟨i3, hi, hz0, hz1, hz2⟩ := info_parts info3
  have H0 := Lib.hid (hst.nil (e := 3) (size := 1))
  clear hst
  go_enter Try.func43, Try.ntmps43
  go_upto_region 3 with fail
  clear hcP hlP
  go_loopw [5, 12] (fun lv iv wr => ∃ (k : Nat) (B : Option Addr) (cb : Nat) (l : List Int), k ≤ h.ms.length ∧ iv = .int .i64 k ∧ lv = .slice B l.length cb ∧ l.length ≤ k ∧ Hid (l = ((h.ms.take k).filter (fun m => m.room.toList == name.toList)).map (·.id) ∧ St I (row 3 1 (.slice B l.length cb) l.length (ints l) :: houR p h (.slice A h.ms.length c) vT vS M) wr)) (fun _ iv _ => h.ms.length - (intOf iv).toNat)
  case atStart => exact ⟨0, none, 0, [], by omega, rfl, rfl, Nat.le_refl _, rfl, H0.out⟩
  case round =>
    obtain ⟨k, B, cb, l, hk, rfl, rfl, hlk, hh⟩ := hrel
    obtain ⟨hl2, hs⟩ := hh.out
    clear hh H0
    obtain ⟨hcP, _, hlP⟩ := Blk.all (hs.at 4 rfl)
    by_cases hlt : k < h.ms.length
    · obtain ⟨g, rfl, _, hcc, hg, hcell, _⟩ := flat_cell (f := memC) (s := 5) (fun _ => rfl) hs.swap1 (by omega) (by decide)
      obtain ⟨x, hx⟩ : ∃ x, x = h.ms[k] := ⟨_, rfl⟩
      have z0 : wr.cell? ⟨g, k * 5, none⟩ = some (.int .i64 h.ms[k].id) := hcell k hlt 0 (by decide)
      have z1 : wr.cell? ⟨g, k * 5 + 1, none⟩ = some (.string h.ms[k].room) := hcell k hlt 1 (by decide)
      have z2 : wr.cell? ⟨g, k * 5 + 2, none⟩ = some (.string h.ms[k].user) := hcell k hlt 2 (by decide)
      have z3 : wr.cell? ⟨g, k * 5 + 3, none⟩ = some (.int .i64 h.ms[k].til) := hcell k hlt 3 (by decide)
      have z4 : wr.cell? ⟨g, k * 5 + 4, none⟩ = some (.int .i64 h.ms[k].rights) := hcell k hlt 4 (by decide)
      have hnext : ((h.ms.take (k + 1)).filter (fun m => m.room.toList == name.toList)).map (·.id) = l ++ (if (x.room.toList == name.toList) = true then [x.id] else []) := by
        rw [List.take_succ_eq_append_getElem hlt, List.filter_append, List.map_append, ← hl2, hx]
        congr 1
        simp only [List.filter_cons, List.filter_nil]
        split <;> rfl
      rw [← hx] at z0 z1 z2 z3 z4
      have HN := Lib.hid hnext
      have HS := Lib.hid hs
      clear hcell hl2 hx hnext hs
      cases hb : (x.room.toList == name.toList)
      · rw [hb] at HN
        have HN2 : Hid (((h.ms.take (k + 1)).filter (fun m => m.room.toList == name.toList)).map (·.id) = l) := Lib.hid (by rw [HN.out]; simp)
        clear HN
        go_wp2
        go_roundw
        case rel => exact ⟨k + 1, B, cb, l, by omega, by go_num, rfl, by omega, HN2.out.symm, HS.out⟩
        case measure => simp [intOf]; omega
      · rw [hb] at HN
        have HN2 : Hid (((h.ms.take (k + 1)).filter (fun m => m.room.toList == name.toList)).map (·.id) = l ++ [x.id]) := Lib.hid (by rw [HN.out]; simp)
        have hs0 := HS.out.litSrcV (P := Try.prog) (t := 34) (e := 3) (cs := #[.int .i64 x.id]) (n := 1) (size := 1) rfl (by decide) Try.underlying34 (by simp [Value.oneCell'])
        have Hs := Lib.hid hs0
        have HG := Lib.hid (HS.out.grow (.cells #[.int .i64 x.id] 3))
        clear HN HS hs0
        go_wp2_with (at_builtin; refine wpList_append_src _ rfl _ _ 34 34 rfl 0 3 i3 (.int .i64 0) 1 8 Try.underlying34 hi hz0 hz1 hz2 rfl _ l.length (ints l) rfl HG.out.head _ 1 _ rfl Hs.out (by unfold maxLen; omega) (by omega) (Nat.zero_le _) ?_)
        intro v' w' hown hgrow hat
        have hown2 : w'.ownsRow 0 3 1 v' (l ++ [x.id]).length (ints (l ++ [x.id])) := by simpa [ints_append, ints] using hown
        have hs3 := HG.out.grown hgrow hown2 (by simpa using hat)
        obtain ⟨B', c', rfl⟩ := own_form hown2
        obtain ⟨n2, hn2⟩ : ∃ n2, n2 = (l ++ [x.id]).length := ⟨_, rfl⟩
        rw [← hn2] at hs3 ⊢
        have HS3 := Lib.hid (And.intro hn2 hs3)
        clear hown hown2 hgrow hat hs3 hn2 HG Hs z0 z1 z2 z3 z4
        go_wp2
        go_roundw
        case rel => exact ⟨k + 1, B', c', l ++ [x.id], by omega, by go_num, by rw [← HS3.out.1], by simp; omega, HN2.out.symm, by rw [← HS3.out.1]; exact HS3.out.2⟩
        case measure => simp [intOf]; omega
    · have hk' : k = h.ms.length := by omega
      have HL := Lib.hid (show l = membersS h name by rw [hl2, hk', List.take_length]; rfl)
      have hk2 : (h.ms.length : Int) ≤ k := by omega
      have HS := Lib.hid hs
      clear hlt hl2 hs
      go_wp2
      go_returns
      rw [← HL.out]
      exact Ret.mk (.refl I) HS.out ⟨rfl, B, cb, rfl, rfl⟩
set_option maxRecDepth 8000 in
set_option maxHeartbeats 4000000 in
theorem subsR (I : Img) (M : List Res) (w : World) (p : Nat) (h : Ho) (vM vT vS : Value) (id : Int) (hst : St I (houR p h vM vT vS M) w) (hl : h.ss.length ≤ 1000000) :
    Calls Try.prog 22 #[.pointer (some ⟨p, 0, none⟩), .int .i64 id] w (Ret I (fun v J M' => I = J ∧ ∃ A c, v = .slice A (subsS h id).length c ∧ M' = row 88 3 (.slice A (subsS h id).length c) (subsS h id).length (flat sbC (subsS h id)) :: houR p h vM vT vS M)) := by
  obtain ⟨hcP, _, hlP⟩ := Blk.all (hst.at 3 rfl)
  obtain ⟨A, c, rfl⟩ := own_form (show w.ownsRow 0 88 3 vS _ _ from hst.at 2 rfl)
  obtain ⟨i3, hi, hz0, hz1, hz2⟩ := info_parts info88
  have H0 := Lib.hid (hst.nil (e := 88) (size := 3))
  clear hst
  go_enter Try.func22, Try.ntmps22
  go_upto_region 3 with fail
  clear hcP hlP
  go_loopw [5, 12] (fun lv iv wr => ∃ (k : Nat) (B : Option Addr) (cb : Nat) (l : List Sb), k ≤ h.ss.length ∧ iv = .int .i64 k ∧ lv = .slice B l.length cb ∧ l.length ≤ k ∧ Hid (l = ((h.ss.take k).filter (fun s => s.track == id)) ∧ St I (row 88 3 (.slice B l.length cb) l.length (flat sbC l) :: houR p h vM vT (.slice A h.ss.length c) M) wr)) (fun _ iv _ => h.ss.length - (intOf iv).toNat)
  case atStart => exact ⟨0, none, 0, [], by omega, rfl, rfl, Nat.le_refl _, rfl, H0.out⟩
  case round =>
    obtain ⟨k, B, cb, l, hk, rfl, rfl, hlk, hh⟩ := hrel
    obtain ⟨hl2, hs⟩ := hh.out
    clear hh H0
    obtain ⟨hcP, _, hlP⟩ := Blk.all (hs.at 4 rfl)
    by_cases hlt : k < h.ss.length
    · obtain ⟨g, rfl, _, hcc, hg, hcell, _⟩ := flat_cell (f := sbC) (s := 3) (fun _ => rfl) hs.swap3 (by omega) (by decide)
      obtain ⟨x, hx⟩ : ∃ x, x = h.ss[k] := ⟨_, rfl⟩
      have z0 : wr.cell? ⟨g, k * 3, none⟩ = some (.int .i64 h.ss[k].member) := hcell k hlt 0 (by decide)
      have z1 : wr.cell? ⟨g, k * 3 + 1, none⟩ = some (.int .i64 h.ss[k].track) := hcell k hlt 1 (by decide)
      have z2 : wr.cell? ⟨g, k * 3 + 2, none⟩ = some (.int .i64 h.ss[k].layer) := hcell k hlt 2 (by decide)
      have hnext : ((h.ss.take (k + 1)).filter (fun s => s.track == id)) = l ++ (if (x.track == id) = true then [x] else []) := by
        rw [List.take_succ_eq_append_getElem hlt, List.filter_append, ← hl2, hx]
        congr 1
        simp only [List.filter_cons, List.filter_nil]
        try rfl
      rw [← hx] at z0 z1 z2
      have HN := Lib.hid hnext
      have HS := Lib.hid hs
      clear hcell hl2 hx hnext hs
      cases hb : (x.track == id)
      · rw [hb] at HN
        have HN2 : Hid (((h.ss.take (k + 1)).filter (fun s => s.track == id)) = l) := Lib.hid (by rw [HN.out]; simp)
        clear HN
        go_wp2
        go_roundw
        case rel => exact ⟨k + 1, B, cb, l, by omega, by go_num, rfl, by omega, HN2.out.symm, HS.out⟩
        case measure => simp [intOf]; omega
      · rw [hb] at HN
        have HN2 : Hid (((h.ss.take (k + 1)).filter (fun s => s.track == id)) = l ++ [x]) := Lib.hid (by rw [HN.out]; simp)
        have hs0 := HS.out.litSrcV (P := Try.prog) (t := 56) (e := 88) (cs := #[.int .i64 x.member, .int .i64 x.track, .int .i64 x.layer]) (n := 1) (size := 3) rfl (by decide) Try.underlying56 (by simp [Value.oneCell'])
        have Hs := Lib.hid hs0
        have HG := Lib.hid (HS.out.grow (.cells #[.int .i64 x.member, .int .i64 x.track, .int .i64 x.layer] 88))
        clear HN HS hs0
        go_wp2_with (at_builtin; refine wpList_append_src _ rfl _ _ 56 56 rfl 0 88 i3 (.agg #[.int .i64 0, .int .i64 0, .int .i64 0]) 3 24 Try.underlying56 hi hz0 hz1 hz2 rfl _ l.length (flat sbC l) rfl HG.out.head _ 1 _ rfl Hs.out (by unfold maxLen; omega) (by omega) (Nat.zero_le _) ?_)
        intro v' w' hown hgrow hat
        have hown2 : w'.ownsRow 0 88 3 v' (l ++ [x]).length (flat sbC (l ++ [x])) := by simpa [flat_append, flat] using hown
        have hs3 := HG.out.grown hgrow hown2 (by simpa using hat)
        obtain ⟨B', c', rfl⟩ := own_form hown2
        obtain ⟨n2, hn2⟩ : ∃ n2, n2 = (l ++ [x]).length := ⟨_, rfl⟩
        rw [← hn2] at hs3 ⊢
        have HS3 := Lib.hid (And.intro hn2 hs3)
        clear hown hown2 hgrow hat hs3 hn2 HG Hs z0 z1 z2
        go_wp2
        go_roundw
        case rel => exact ⟨k + 1, B', c', l ++ [x], by omega, by go_num, by rw [← HS3.out.1], by simp; omega, HN2.out.symm, by rw [← HS3.out.1]; exact HS3.out.2⟩
        case measure => simp [intOf]; omega
    · have hk' : k = h.ss.length := by omega
      have HL := Lib.hid (show l = subsS h id by rw [hl2, hk', List.take_length]; rfl)
      have hk2 : (h.ss.length : Int) ≤ k := by omega
      have HS := Lib.hid hs
      clear hlt hl2 hs
      go_wp2
      go_returns
      rw [← HL.out]
      exact Ret.mk (.refl I) HS.out ⟨rfl, B, cb, rfl, rfl⟩
set_option maxRecDepth 8000 in
set_option maxHeartbeats 4000000 in
theorem tracksR (I : Img) (M : List Res) (w : World) (p : Nat) (h : Ho) (vM vT vS : Value) (name : ByteArray) (hst : St I (houR p h vM vT vS M) w) (hl : h.ts.length ≤ 1000000) (hlm : h.ms.length ≤ 1000000) (hmem : ∀ t ∈ h.ts, mem? h t.member ≠ none) :
    Calls Try.prog 44 #[.pointer (some ⟨p, 0, none⟩), .string name] w (Ret I (fun v J M' => I = J ∧ ∃ A c, v = .slice A (tracksS h name).length c ∧ M' = row 87 4 (.slice A (tracksS h name).length c) (tracksS h name).length (flat trkC (tracksS h name)) :: houR p h vM vT vS M)) := by
  obtain ⟨hcP, _, hlP⟩ := Blk.all (hst.at 3 rfl)
  obtain ⟨A, c, rfl⟩ := own_form (show w.ownsRow 0 87 4 vT _ _ from hst.at 1 rfl)
  obtain ⟨i3, hi, hz0, hz1, hz2⟩ := info_parts info87
  have H0 := Lib.hid (hst.nil (e := 87) (size := 4))
  clear hst
  go_enter Try.func44, Try.ntmps44
  go_upto_region 3 with fail
  clear hcP hlP
  go_loopw [5, 14] (fun lv iv wr => ∃ (k : Nat) (B : Option Addr) (cb : Nat) (l : List Trk), k ≤ h.ts.length ∧ iv = .int .i64 k ∧ lv = .slice B l.length cb ∧ l.length ≤ k ∧ Hid (l = ((h.ts.take k).filter (inRoom h name)) ∧ St I (row 87 4 (.slice B l.length cb) l.length (flat trkC l) :: houR p h vM (.slice A h.ts.length c) vS M) wr)) (fun _ iv _ => h.ts.length - (intOf iv).toNat)
  case atStart => exact ⟨0, none, 0, [], by omega, rfl, rfl, Nat.le_refl _, rfl, H0.out⟩
  case round =>
    obtain ⟨k, B, cb, l, hk, rfl, rfl, hlk, hh⟩ := hrel
    obtain ⟨hl2, hs⟩ := hh.out
    clear hh H0
    obtain ⟨hcP, _, hlP⟩ := Blk.all (hs.at 4 rfl)
    by_cases hlt : k < h.ts.length
    · obtain ⟨g, rfl, _, hcc, hg, hcell, _⟩ := flat_cell (f := trkC) (s := 4) (fun _ => rfl) hs.swap2 (by omega) (by decide)
      obtain ⟨x, hx⟩ : ∃ x, x = h.ts[k] := ⟨_, rfl⟩
      have z0 : wr.cell? ⟨g, k * 4, none⟩ = some (.int .i64 h.ts[k].id) := hcell k hlt 0 (by decide)
      have z1 : wr.cell? ⟨g, k * 4 + 1, none⟩ = some (.int .i64 h.ts[k].member) := hcell k hlt 1 (by decide)
      have z2 : wr.cell? ⟨g, k * 4 + 2, none⟩ = some (.string h.ts[k].mid) := hcell k hlt 2 (by decide)
      have z3 : wr.cell? ⟨g, k * 4 + 3, none⟩ = some (.int .i64 h.ts[k].kind) := hcell k hlt 3 (by decide)
      have hmx := hmem h.ts[k] (List.getElem_mem hlt)
      rw [← hx] at hmx
      have hnext : ((h.ts.take (k + 1)).filter (inRoom h name)) = l ++ (if (inRoom h name x) = true then [x] else []) := by
        rw [List.take_succ_eq_append_getElem hlt, List.filter_append, ← hl2, hx]
        congr 1
        simp only [List.filter_cons, List.filter_nil]
        try rfl
      rw [← hx] at z0 z1 z2 z3
      have HN := Lib.hid hnext
      have HS := Lib.hid hs
      clear hcell hl2 hx hnext hs
      obtain ⟨m, hm⟩ : ∃ m, mem? h x.member = some m := by
        cases e : mem? h x.member with
        | none => exact absurd e hmx
        | some m => exact ⟨m, rfl⟩
      have hroom : inRoom h name x = (m.room.toList == name.toList) := by unfold inRoom; rw [hm]
      have hro := roomR I M wr p h _ _ _ x.member HS.out.drop hlm
      rw [show roomS h x.member = (m.room, 0) by unfold roomS; rw [hm]] at hro
      rw [hroom] at HN
      clear hm hmx hroom
      go_upto_region 6 with (go_at_call 20; refine hro.mono ?_; clear hro; rintro e w2 ⟨rfl, hw2⟩; subst w2)
      cases hb : (m.room.toList == name.toList)
      · rw [hb] at HN
        have HN2 : Hid (((h.ts.take (k + 1)).filter (inRoom h name)) = l) := Lib.hid (by rw [HN.out]; simp)
        clear HN
        go_wp2
        go_roundw
        case rel => exact ⟨k + 1, B, cb, l, by omega, by go_num, rfl, by omega, HN2.out.symm, HS.out⟩
        case measure => simp [intOf]; omega
      · rw [hb] at HN
        have HN2 : Hid (((h.ts.take (k + 1)).filter (inRoom h name)) = l ++ [x]) := Lib.hid (by rw [HN.out]; simp)
        have hs0 := HS.out.litSrcV (P := Try.prog) (t := 69) (e := 87) (cs := #[.int .i64 x.id, .int .i64 x.member, .string x.mid, .int .i64 x.kind]) (n := 1) (size := 4) rfl (by decide) Try.underlying69 (by simp [Value.oneCell'])
        have Hs := Lib.hid hs0
        have HG := Lib.hid (HS.out.grow (.cells #[.int .i64 x.id, .int .i64 x.member, .string x.mid, .int .i64 x.kind] 87))
        clear HN HS hs0
        go_wp2_with (at_builtin; refine wpList_append_src _ rfl _ _ 69 69 rfl 0 87 i3 (.agg #[.int .i64 0, .int .i64 0, .string ⟨#[]⟩, .int .i64 0]) 4 40 Try.underlying69 hi hz0 hz1 hz2 rfl _ l.length (flat trkC l) rfl HG.out.head _ 1 _ rfl Hs.out (by unfold maxLen; omega) (by omega) (Nat.zero_le _) ?_)
        intro v' w' hown hgrow hat
        have hown2 : w'.ownsRow 0 87 4 v' (l ++ [x]).length (flat trkC (l ++ [x])) := by simpa [flat_append, flat] using hown
        have hs3 := HG.out.grown hgrow hown2 (by simpa using hat)
        obtain ⟨B', c', rfl⟩ := own_form hown2
        obtain ⟨n2, hn2⟩ : ∃ n2, n2 = (l ++ [x]).length := ⟨_, rfl⟩
        rw [← hn2] at hs3 ⊢
        have HS3 := Lib.hid (And.intro hn2 hs3)
        clear hown hown2 hgrow hat hs3 hn2 HG Hs z0 z1 z2 z3
        go_wp2
        go_roundw
        case rel => exact ⟨k + 1, B', c', l ++ [x], by omega, by go_num, by rw [← HS3.out.1], by simp; omega, HN2.out.symm, by rw [← HS3.out.1]; exact HS3.out.2⟩
        case measure => simp [intOf]; omega
    · have hk' : k = h.ts.length := by omega
      have HL := Lib.hid (show l = tracksS h name by rw [hl2, hk', List.take_length]; rfl)
      have hk2 : (h.ts.length : Int) ≤ k := by omega
      have HS := Lib.hid hs
      clear hlt hl2 hs
      go_wp2
      go_returns
      rw [← HL.out]
      exact Ret.mk (.refl I) HS.out ⟨rfl, B, cb, rfl, rfl⟩
end Go.Proofs.Ytbaobonlolbnpaa
