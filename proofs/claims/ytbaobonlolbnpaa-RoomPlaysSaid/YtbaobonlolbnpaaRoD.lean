/- room.House.Join. -/
import Derived.Test.YtbaobonlolbnpaaRoC
import Derived.Test.YtbaobonlolbnpaaWo
namespace Go.Proofs.Ytbaobonlolbnpaa
open Go.RowKit Go.Maps
set_option linter.unusedSimpArgs false

def roomsL (l : List Mem) : List ByteArray := (l.map (·.room)).reverse
def joinS (h : Ho) (room user : ByteArray) (til rights : Int) : Ho × Int × Int :=
  if wordB room 1 32 = false ∨ wordB user 1 32 = false ∨ rights < 0 ∨ 7 < rights then (h, 0, 1)
  else if h.ms.any (fun m => m.room.toList == room.toList && m.user.toList == user.toList) = true then (h, 0, 9)
  else if cnt (roomsL h.ms) room = 8 ∨ cnt (roomsL h.ms) room = 0 ∧ (dist (roomsL h.ms)).length = 4 then (h, 0, 6)
  else ({ h with ms := h.ms ++ [⟨h.lm + 1, room, user, til, rights⟩], lm := h.lm + 1 }, h.lm + 1, 0)
theorem zero3 (w : World) : (zeroValue 3).run Try.prog w = .ok (.int .i64 0) w := by kernel_rfl
theorem cnt_le (L : List ByteArray) (s : ByteArray) : cnt L s ≤ L.length := List.length_filter_le _ _
theorem roomsL_len (l : List Mem) : (roomsL l).length = l.length := by simp [roomsL]
theorem roomsL_snoc (l : List Mem) (m : Mem) : roomsL (l ++ [m]) = m.room :: roomsL l := by simp [roomsL]
theorem any_no {h : Ho} {room user : ByteArray} (hno : ∀ j (hj : j < h.ms.length), (h.ms[j].room.toList == room.toList && h.ms[j].user.toList == user.toList) = false) : ¬ h.ms.any (fun m => m.room.toList == room.toList && m.user.toList == user.toList) = true := by
  intro ha
  obtain ⟨m, hm, he⟩ := List.any_eq_true.1 ha
  obtain ⟨j, hj, rfl⟩ := List.getElem_of_mem hm
  rw [hno j hj] at he
  cases he
theorem info73 : (Try.prog.info? 73).map (fun i => (i.zero, i.size, i.bytes)) = some (some (.agg #[.int .i64 0, .string ⟨#[]⟩, .string ⟨#[]⟩, .int .i64 0, .int .i64 0]), 5, 56) := by kernel_rfl
theorem lit_inj {a c : Int} {D : DataW Unit} {k : Lit} {z : DataW Unit} (h1 : D.atKey k z = .lit (.int .i64 a)) (h2 : D.atKey k z = .lit (.int .i64 c)) : c = a := by
  rw [h1] at h2
  simp only [DataW.lit.injEq, Lit.int.injEq, true_and] at h2
  exact h2.symm
def JQ (p : Nat) (vT vS : Value) (M : List Res) (r : Ho × Int × Int) (v : Value) (M' : List Res) : Prop := v = .tuple #[.int .i64 r.2.1, .int .i64 r.2.2] ∧ ∃ vM', M' = hou p r.1 vM' vT vS M
theorem joKeep {w : World} {q p : Nat} {a b c d x y z u v : Value} (h1 : Blk w q 52 #[a, b, c, d]) (h2 : Blk w p 66 #[x, y, z, u, v]) : (w.cell? ⟨q, 0, none⟩ = some a ∧ w.cell? ⟨q, 1, none⟩ = some b ∧ w.cell? ⟨q, 2, none⟩ = some c ∧ w.cell? ⟨q, 3, none⟩ = some d) ∧ w.cell? ⟨p, 3, none⟩ = some u := ⟨⟨h1.cell 0, h1.cell 1, h1.cell 2, h1.cell 3⟩, h2.cell 3⟩
set_option maxRecDepth 8000 in
set_option maxHeartbeats 8000000 in
theorem joinC (I : Img) (M : List Res) (w : World) (p : Nat) (h : Ho) (vM vT vS : Value) (room user : ByteArray) (til rights : Int) (hst : St I (hou p h vM vT vS M) w) (hl : h.ms.length ≤ 1000000) (hlm : 0 ≤ h.lm ∧ h.lm ≤ 1000000) (hr : room.size ≤ maxLen) (hu : user.size ≤ maxLen) (hms : ∀ m ∈ h.ms, m.room.size ≤ maxLen) :
    Calls Try.prog 17 #[.pointer (some ⟨p, 0, none⟩), .agg #[.string room, .string user, .int .i64 til, .int .i64 rights]] w (Ret I (fun v J M' => I = J ∧ JQ p vT vS M (joinS h room user til rights) v M')) := by
  have hst1 := hst.alloc 52 #[.string room, .string user, .int .i64 til, .int .i64 rights]
  obtain ⟨hc0, _, _⟩ := Blk.all hst1.head
  have H1 := Lib.hid hst1
  clear hst hst1
  go_enter Try.func17, Try.ntmps17
  cases hw1 : wordB room 1 32
  · have HE := Lib.hid (show joinS h room user til rights = (h, 0, 1) by unfold joinS; rw [if_pos (.inl hw1)])
    go_wp2_with (go_at_call 42; refine (wordP room 1 32 _ hr).mono ?_; rw [hw1]; rintro e w1 ⟨rfl, hb1⟩; have H2 := Lib.hid (H1.out.below hb1); clear hb1)
    go_returns
    refine Ret.mk (.refl I) H2.out.drop ⟨rfl, ?_⟩
    rw [HE.out]
    exact ⟨rfl, vM, rfl⟩
  cases hw2 : wordB user 1 32
  · have HE := Lib.hid (show joinS h room user til rights = (h, 0, 1) by unfold joinS; rw [if_pos (.inr (.inl hw2))])
    go_wp2_with fail
    refine (wordP room 1 32 _ hr).mono ?_
    rw [hw1]
    rintro e w1 ⟨rfl, hb1⟩
    have hs2 := H1.out.below hb1
    clear hb1 hc0
    obtain ⟨hc0, _, _⟩ := Blk.all hs2.head
    have H2 := Lib.hid hs2
    clear hs2
    go_wp2_with (go_at_call 42; refine (wordP user 1 32 _ hu).mono ?_; rw [hw2]; rintro e w2 ⟨rfl, hb2⟩; have H3 := Lib.hid (H2.out.below hb2); clear hb2)
    go_returns
    refine Ret.mk (.refl I) H3.out.drop ⟨rfl, ?_⟩
    rw [HE.out]
    exact ⟨rfl, vM, rfl⟩
  go_wp2_with fail
  refine (wordP room 1 32 _ hr).mono ?_
  rw [hw1]
  rintro e w1 ⟨rfl, hb1⟩
  have hs2 := H1.out.below hb1
  clear hb1 hc0
  obtain ⟨hc0, _, _⟩ := Blk.all hs2.head
  have H2 := Lib.hid hs2
  clear hs2
  go_wp2_with fail
  refine (wordP user 1 32 _ hu).mono ?_
  rw [hw2]
  rintro e w2 ⟨rfl, hb2⟩
  have hs3 := H2.out.below hb2
  clear hb2 hc0
  obtain ⟨hc0, _, _⟩ := Blk.all hs3.head
  have H3 := Lib.hid hs3
  clear hs3 H1 H2
  by_cases hr0 : rights < 0
  · have HE := Lib.hid (show joinS h room user til rights = (h, 0, 1) by unfold joinS; rw [if_pos (.inr (.inr (.inl hr0)))])
    go_wp2
    go_returns
    refine Ret.mk (.refl I) H3.out.drop ⟨rfl, ?_⟩
    rw [HE.out]
    exact ⟨rfl, vM, rfl⟩
  by_cases hr7 : 7 < rights
  · have HE := Lib.hid (show joinS h room user til rights = (h, 0, 1) by unfold joinS; rw [if_pos (.inr (.inr (.inr hr7)))])
    go_wp2
    go_returns
    refine Ret.mk (.refl I) H3.out.drop ⟨rfl, ?_⟩
    rw [HE.out]
    exact ⟨rfl, vM, rfl⟩
  have hE : joinS h room user til rights = if h.ms.any (fun m => m.room.toList == room.toList && m.user.toList == user.toList) = true then (h, 0, 9)
      else if cnt (roomsL h.ms) room = 8 ∨ cnt (roomsL h.ms) room = 0 ∧ (dist (roomsL h.ms)).length = 4 then (h, 0, 6)
      else ({ h with ms := h.ms ++ [⟨h.lm + 1, room, user, til, rights⟩], lm := h.lm + 1 }, h.lm + 1, 0) := by
    unfold joinS
    rw [if_neg]
    rw [hw1, hw2]
    intro hx
    rcases hx with hx | hx | hx | hx
    · cases hx
    · cases hx
    · exact hr0 hx
    · exact hr7 hx
  have HE := Lib.hid hE
  have hr0' : 0 ≤ rights := by omega
  have hr7' : rights ≤ 7 := by omega
  clear hE hr0 hr7 hw1 hw2
  go_upto_region 3 with fail
  have hmk := run_makeMap (P := Try.prog) 85 w2
  obtain ⟨b, hb⟩ : ∃ b, b = w2.heap.size := ⟨_, rfl⟩
  have hs4 := H3.out.mapMade
  rw [← hb] at hs4 hmk
  obtain ⟨A, c, rfl⟩ := own_form (show w2.ownsRow 0 73 5 vM _ _ from H3.out.at 1 rfl)
  clear hc0 hb H3
  obtain ⟨hcP, _, hlP⟩ := Blk.all (hs4.at 5 rfl)
  have H4 := Lib.hid hs4
  clear hs4
  go_wp2
  clear hmk hcP hlP
  go_loopw [40] (fun iv wr => ∃ (k n : Nat) (D : DataW Unit), k ≤ h.ms.length ∧ iv = .int .i64 k ∧ n ≤ k ∧ Hid (Cnt D (roomsL (h.ms.take k)) ∧ (∀ j (hj : j < h.ms.length), j < k → (h.ms[j].room.toList == room.toList && h.ms[j].user.toList == user.toList) = false) ∧ St I (mpr b n D :: bk w.heap.size 52 #[.string room, .string user, .int .i64 til, .int .i64 rights] :: hou p h (.slice A h.ms.length c) vT vS M) wr)) (fun iv _ => h.ms.length - (intOf iv).toNat)
  case atStart => exact ⟨0, 0, .map [], by omega, rfl, by omega, Cnt.nil, fun j hj h => by omega, H4.out⟩
  case round =>
    obtain ⟨k, n, D, hk, rfl, hnk, hh⟩ := hrel
    obtain ⟨hcnt, hno, hs⟩ := hh.out
    have HC := Lib.hid hcnt
    have HNO := Lib.hid hno
    clear hh H4 hcnt hno
    obtain ⟨hc0, _, _⟩ := Blk.all (hs.at 1 rfl)
    by_cases hlt : k < h.ms.length
    · obtain ⟨g, rfl, _, hcc, hg, hcell, _⟩ := flat_cell (f := memC) (s := 5) (fun _ => rfl) hs.swap2 (by omega) (by decide)
      obtain ⟨x, hx⟩ : ∃ x, x = h.ms[k] := ⟨_, rfl⟩
      have z0 : wr.cell? ⟨g, k * 5, none⟩ = some (.int .i64 h.ms[k].id) := hcell k hlt 0 (by decide)
      have z1 : wr.cell? ⟨g, k * 5 + 1, none⟩ = some (.string h.ms[k].room) := hcell k hlt 1 (by decide)
      have z2 : wr.cell? ⟨g, k * 5 + 2, none⟩ = some (.string h.ms[k].user) := hcell k hlt 2 (by decide)
      have z3 : wr.cell? ⟨g, k * 5 + 3, none⟩ = some (.int .i64 h.ms[k].til) := hcell k hlt 3 (by decide)
      have z4 : wr.cell? ⟨g, k * 5 + 4, none⟩ = some (.int .i64 h.ms[k].rights) := hcell k hlt 4 (by decide)
      have hxm := hms h.ms[k] (List.getElem_mem hlt)
      have hsnoc : roomsL (h.ms.take (k + 1)) = x.room :: roomsL (h.ms.take k) := by rw [List.take_succ_eq_append_getElem hlt, roomsL_snoc, hx]
      rw [← hx] at z0 z1 z2 z3 z4 hxm
      have HX := Lib.hid hx
      have HSN := Lib.hid hsnoc
      have HS := Lib.hid (hs.alloc 73 (memC x).toArray).drop
      clear hcell hx hsnoc hs
      cases hb1 : (x.room.toList == room.toList && x.user.toList == user.toList)
      · have HNO2 := Lib.hid (show ∀ j (hj : j < h.ms.length), j < k + 1 → (h.ms[j].room.toList == room.toList && h.ms[j].user.toList == user.toList) = false from fun j hj h1 => by
          by_cases e : j = k
          · subst e; rw [← HX.out]; exact hb1
          · exact HNO.out j hj (by omega))
        have hcl : cnt (roomsL (h.ms.take k)) x.room ≤ 1000000 := by
          have := cnt_le (roomsL (h.ms.take k)) x.room
          rw [roomsL_len, List.length_take] at this
          omega
        obtain ⟨q, hq⟩ : ∃ q, q = cnt (roomsL (h.ms.take k)) x.room := ⟨_, rfl⟩
        have HQ := Lib.hid hq
        have hq1 : (q : Int) ≤ 1000000 := by omega
        have hat := HC.out.at_ x.room
        rw [← hq] at hat
        have HAT := Lib.hid hat
        clear hq hcl hat HNO
        have hbb : (x.room.toList == room.toList) = false ∨ ((x.room.toList == room.toList) = true ∧ (x.user.toList == user.toList) = false) := by
          cases h1 : (x.room.toList == room.toList)
          · exact .inl rfl
          · rw [h1] at hb1; exact .inr ⟨rfl, by simpa using hb1⟩
        clear hb1
        have hown : World.ownsMap (wr.alloc (.cells (memC x).toArray 73)) Try.prog 9 (plainElem Try.prog 3) b n D := HS.out.head
        have HOWN := Lib.hid hown
        clear hown
        rcases hbb with h1 | ⟨h1, h2⟩
        all_goals
          go_wp2_with (first | (at_lookup; refine wpList_lookup_own_int _ rfl _ _ 85 rfl 9 3 .i64 (string_keyed Try.underlying9) Try.underlying85 Try.underlying3 (zero3 _) b n D rfl HOWN.out _ (key x.room) rfl (Go.WideMaps.keyOf_string_mk Try.underlying9 hxm) ?_; intro c1 hat1 _; obtain rfl := lit_inj HAT.out hat1) | (at_mapUpdate; refine wpList_mapUpdate_own _ rfl _ _ _ 85 rfl 9 3 (string_keyed Try.underlying9) Try.underlying85 _ b n D rfl HOWN.out (by unfold maxLen; omega) _ _ (key x.room) rfl rfl (Go.WideMaps.keyOf_string_mk Try.underlying9 hxm) (.lit (.int .i64 ((q : Int) + 1))) [] (plainElem_int Try.underlying3 (WalkArith.wf_i64 (by omega))) ?_; intro w5 hown5 hgrow5))
          go_roundw
          case rel => exact ⟨k + 1, n + 1, D.put (key x.room) (.lit (.int .i64 ((q : Int) + 1))), by omega, by go_num, by omega, by rw [HSN.out]; have hq9 := HC.out.step x.room; rw [← HQ.out] at hq9; exact hq9, HNO2.out, HS.out.mapTurned hgrow5 hown5⟩
          case measure => simp [intOf]; omega
      · have hany : h.ms.any (fun m => m.room.toList == room.toList && m.user.toList == user.toList) = true := List.any_eq_true.2 ⟨x, by rw [HX.out]; exact List.getElem_mem hlt, hb1⟩
        have HE9 := Lib.hid (HE.out.trans (if_pos hany))
        have h1 : (x.room.toList == room.toList) = true := by cases e : (x.room.toList == room.toList); rw [e] at hb1; cases hb1; rfl
        have h2 : (x.user.toList == user.toList) = true := by rw [h1] at hb1; simpa using hb1
        clear hb1 hany
        go_wp2
        go_returns
        refine Ret.mk (.refl I) HS.out.drop.drop ⟨rfl, ?_⟩
        rw [HE9.out]
        exact ⟨rfl, _, rfl⟩
    · have hk' : k = h.ms.length := by omega
      have hk2 : (h.ms.length : Int) ≤ k := by omega
      have HNO2 := Lib.hid (any_no (h := h) (room := room) (user := user) (fun j hj => HNO.out j hj (by omega)))
      have hcnt := HC.out
      rw [hk', List.take_length] at hcnt
      have HC2 := Lib.hid hcnt
      have HE2 := Lib.hid (HE.out.trans (if_neg HNO2.out))
      obtain ⟨q, hq⟩ : ∃ q, q = cnt (roomsL h.ms) room := ⟨_, rfl⟩
      obtain ⟨d, hd⟩ : ∃ d, d = (dist (roomsL h.ms)).length := ⟨_, rfl⟩
      rw [← hq, ← hd] at HE2
      have hat := hcnt.at_ room
      rw [← hq] at hat
      have HAT := Lib.hid hat
      have hsz := hcnt.size_
      rw [← hd] at hsz
      have hown : World.ownsMap wr Try.prog 9 (plainElem Try.prog 3) b n D := hs.head
      have hlen := hown.len Try.underlying85 3
      rw [hsz] at hlen
      have HOWN := Lib.hid hown
      have HS := Lib.hid hs
      have hq1 : (q : Int) ≤ 1000000 := by
        have := cnt_le (roomsL h.ms) room
        rw [roomsL_len] at this
        omega
      clear hlt hk' hcnt hq hd hat hsz hown hs HC HNO HNO2 HE
      go_upto_region 12 with (at_lookup; refine wpList_lookup_own_int _ rfl _ _ 85 rfl 9 3 .i64 (string_keyed Try.underlying9) Try.underlying85 Try.underlying3 (zero3 _) b n D rfl HOWN.out _ (key room) rfl (Go.WideMaps.keyOf_string_mk Try.underlying9 hr) ?_; intro c1 hat1 _; obtain rfl := lit_inj HAT.out hat1)
      go_cut [79] (fun v wx => v = .bool (q == 8 || (q == 0 && d == 4)) ∧ wx = wr)
      case first =>
        by_cases h8 : q = 8
        · subst h8
          go_wp2
          go_meet
          exact ⟨rfl, rfl⟩
        · have h8' : ((q : Int) == 8) = false := by simp; omega
          by_cases h0 : q = 0
          · subst h0
            by_cases h4 : d = 4
            · subst h4
              go_wp2
              go_meet
              exact ⟨rfl, rfl⟩
            · have h4' : ((d : Int) == 4) = false := by simp; omega
              go_wp2
              go_meet
              exact ⟨by simp [h4], rfl⟩
          · have h0' : ((q : Int) == 0) = false := by simp; omega
            go_wp2
            go_meet
            exact ⟨by simp [h8, h0], rfl⟩
      case rest =>
        obtain ⟨rfl, hwx⟩ := hcut
        subst hwx
        cases hcond : (q == 8 || (q == 0 && d == 4))
        · have hni : ¬ (q = 8 ∨ q = 0 ∧ d = 4) := by
            intro hx
            rcases hx with hx | hx
            · subst hx; simp at hcond
            · obtain ⟨h1, h2⟩ := hx; subst h1; subst h2; simp at hcond
          have HE3 := Lib.hid (HE2.out.trans (if_neg hni))
          obtain ⟨hc0, _, _⟩ := Blk.all (HS.out.at 1 rfl)
          obtain ⟨hcP, hfP, hlP⟩ := Blk.all (HS.out.at 5 rfl)
          clear hcond hni HE2 HAT
          go_upto_region 15 with fail
          have hs0 := HS.out.drop.set4 3 (.int .i64 (h.lm + 1))
          generalize World.setCell _ _ _ = W at hs0 ⊢
          have hs : St I (bk w.heap.size 52 #[.string room, .string user, .int .i64 til, .int .i64 rights] :: hou p { h with lm := h.lm + 1 } (.slice A h.ms.length c) vT vS M) (World.drew W) := hs0.drew
          clear hs0 HS hc0 hcP hfP hlP hlen HOWN
          obtain ⟨i5, hi, hz0, hz1, hz2⟩ := info_parts info73
          have hnp : (h.ms.length + 1) * 56 ≤ 140737488355328 := by omega
          refine wp_region_held_drew (S := (fun w' => (w'.cell? ⟨w.heap.size, 0, none⟩ = some (.string room) ∧ w'.cell? ⟨w.heap.size, 1, none⟩ = some (.string user) ∧ w'.cell? ⟨w.heap.size, 2, none⟩ = some (.int .i64 til) ∧ w'.cell? ⟨w.heap.size, 3, none⟩ = some (.int .i64 rights)) ∧ w'.cell? ⟨p, 3, none⟩ = some (.int .i64 (h.lm + 1)))) (by kernel_rfl) (by (try dsimp only); first | exact joKeep (hs.at 0 rfl) (hs.at 4 rfl) | exact joKeep ((hs.grow _).at 0 rfl) ((hs.grow _).at 4 rfl)) (fun hHeld => ?_)
          generalize World.drew W = W at hs hHeld ⊢
          refine wpAnyH_take (i := 0) (oi := _) (v := ?_) rfl (by kernel_rfl) (by kernel_rfl) (by kernel_rfl) (fun _ _ _ h => h) (Or.inl ⟨by rfl, ?_⟩) (by assumption) ?_
          rotate_left
          · (intro w hSw; (try dsimp only at hSw); go_simp; try with_reducible rfl)
          try simp only [Act.put, List.getElem_toArray, List.getElem_cons_zero, List.getElem_cons_succ, List.setIfInBounds_toArray, List.set_cons_zero, List.set_cons_succ]
          refine wpAnyH_take (i := 1) (oi := _) (v := ?_) rfl (by kernel_rfl) (by kernel_rfl) (by kernel_rfl) (fun _ _ _ h => h) (Or.inl ⟨by rfl, ?_⟩) (by assumption) ?_
          rotate_left
          · (intro w hSw; (try dsimp only at hSw); go_simp; try with_reducible rfl)
          try simp only [Act.put, List.getElem_toArray, List.getElem_cons_zero, List.getElem_cons_succ, List.setIfInBounds_toArray, List.set_cons_zero, List.set_cons_succ]
          refine wpAnyH_take (i := 2) (oi := _) (v := ?_) rfl (by kernel_rfl) (by kernel_rfl) (by kernel_rfl) (fun _ _ _ h => h) (Or.inl ⟨by rfl, ?_⟩) (by assumption) ?_
          rotate_left
          · (intro w hSw; (try dsimp only at hSw); go_simp; try with_reducible rfl)
          try simp only [Act.put, List.getElem_toArray, List.getElem_cons_zero, List.getElem_cons_succ, List.setIfInBounds_toArray, List.set_cons_zero, List.set_cons_succ]
          refine wpAnyH_take (i := 3) (oi := _) (v := ?_) rfl (by kernel_rfl) (by kernel_rfl) (by kernel_rfl) (fun _ _ _ h => h) (Or.inl ⟨by rfl, ?_⟩) (by assumption) ?_
          rotate_left
          · (intro w hSw; (try dsimp only at hSw); go_simp; try with_reducible rfl)
          try simp only [Act.put, List.getElem_toArray, List.getElem_cons_zero, List.getElem_cons_succ, List.setIfInBounds_toArray, List.set_cons_zero, List.set_cons_succ]
          refine wpAnyH_take (i := 5) (oi := _) (v := ?_) rfl (by kernel_rfl) (by kernel_rfl) (by kernel_rfl) (fun _ _ _ h => h) (Or.inl ⟨by rfl, ?_⟩) (by assumption) ?_
          rotate_left
          · (intro w hSw; (try dsimp only at hSw); go_simp; try with_reducible rfl)
          try simp only [Act.put, List.getElem_toArray, List.getElem_cons_zero, List.getElem_cons_succ, List.setIfInBounds_toArray, List.set_cons_zero, List.set_cons_succ]
          refine wpAnyH_take (i := 6) (oi := _) (v := ?_) rfl (by kernel_rfl) (by kernel_rfl) (by kernel_rfl) (fun _ _ _ h => h) (Or.inl ⟨by rfl, ?_⟩) (by assumption) ?_
          rotate_left
          · (intro w hSw; (try dsimp only at hSw); go_simp; try with_reducible rfl)
          try simp only [Act.put, List.getElem_toArray, List.getElem_cons_zero, List.getElem_cons_succ, List.setIfInBounds_toArray, List.set_cons_zero, List.set_cons_succ]
          refine wpAnyH_take (i := 7) (oi := _) (v := ?_) rfl (by kernel_rfl) (by kernel_rfl) (by kernel_rfl) (fun _ _ _ h => h) (Or.inl ⟨by rfl, ?_⟩) (by assumption) ?_
          rotate_left
          · (intro w hSw; (try dsimp only at hSw); go_simp; try with_reducible rfl)
          try simp only [Act.put, List.getElem_toArray, List.getElem_cons_zero, List.getElem_cons_succ, List.setIfInBounds_toArray, List.set_cons_zero, List.set_cons_succ]
          refine wpAnyH_take (i := 8) (oi := _) (v := ?_) rfl (by kernel_rfl) (by kernel_rfl) (by kernel_rfl) (fun _ _ _ h => h) (Or.inl ⟨by rfl, ?_⟩) (by assumption) ?_
          rotate_left
          · (intro w hSw; (try dsimp only at hSw); go_simp; try with_reducible rfl)
          try simp only [Act.put, List.getElem_toArray, List.getElem_cons_zero, List.getElem_cons_succ, List.setIfInBounds_toArray, List.set_cons_zero, List.set_cons_succ]
          refine wpAnyH_take (i := 9) (oi := _) (v := ?_) rfl (by kernel_rfl) (by kernel_rfl) (by kernel_rfl) (fun _ _ _ h => h) (Or.inl ⟨by rfl, ?_⟩) (by assumption) ?_
          rotate_left
          · (intro w hSw; (try dsimp only at hSw); go_simp; try with_reducible rfl)
          try simp only [Act.put, List.getElem_toArray, List.getElem_cons_zero, List.getElem_cons_succ, List.setIfInBounds_toArray, List.set_cons_zero, List.set_cons_succ]
          refine wpAnyH_take (i := 10) (oi := _) (v := ?_) rfl (by kernel_rfl) (by kernel_rfl) (by kernel_rfl) (fun _ _ _ h => h) (Or.inl ⟨by rfl, ?_⟩) (by assumption) ?_
          rotate_left
          · (intro w hSw; (try dsimp only at hSw); go_simp; try with_reducible rfl)
          try simp only [Act.put, List.getElem_toArray, List.getElem_cons_zero, List.getElem_cons_succ, List.setIfInBounds_toArray, List.set_cons_zero, List.set_cons_succ]
          refine wpAnyH_ready (rs := [4, 11]) (by kernel_rfl) (by simp) ?_
          refine (AllReadyH.cons (o := _) rfl (fun K hK => ?_) (AllReadyH.cons (o := _) rfl (fun K hK => ?_) AllReadyH.nil))
          · skip
            have hcQ : W.cell? ⟨p, 0, none⟩ = some (.slice A h.ms.length c) := Blk.cell (hs.at 4 rfl) 0
            go_simp
            try clear hHeld
            refine hK.out _ _ (by (try dsimp only); first | exact joKeep (hs.at 0 rfl) (hs.at 4 rfl) | exact joKeep ((hs.grow _).at 0 rfl) ((hs.grow _).at 4 rfl)) (fun hHeld => ?_)
            clear hK K
            try simp only [Act.put, List.getElem_toArray, List.getElem_cons_zero, List.getElem_cons_succ, List.setIfInBounds_toArray, List.set_cons_zero, List.set_cons_succ]
            clear hcQ
            refine wpAnyH_ready (rs := [11]) (by kernel_rfl) (by simp) ?_
            refine (AllReadyH.cons (o := _) rfl (fun K hK => ?_) AllReadyH.nil)
            have hsr := hs.litSrcV (P := Try.prog) (t := 64) (e := 73) (cs := #[.int .i64 (h.lm + 1), .string room, .string user, .int .i64 til, .int .i64 rights]) (n := 1) (size := 5) rfl (by decide) Try.underlying64 (by simp [Value.oneCell'])
            go_simp
            try clear hHeld
            refine hK.out _ _ (by (try dsimp only); first | exact joKeep (hs.at 0 rfl) (hs.at 4 rfl) | exact joKeep ((hs.grow _).at 0 rfl) ((hs.grow _).at 4 rfl)) (fun hHeld => ?_)
            clear hK K
            try simp only [Act.put, List.getElem_toArray, List.getElem_cons_zero, List.getElem_cons_succ, List.setIfInBounds_toArray, List.set_cons_zero, List.set_cons_succ]
            generalize hw : World.alloc W _ = W at hHeld hsr ⊢
            replace hs := hs.growTo hw
            clear hw
            refine wpAnyH_ready (rs := [12]) (by kernel_rfl) (by simp) ?_
            refine (AllReadyH.cons (o := _) rfl (fun K hK => ?_) AllReadyH.nil)
            replace hs := hs.swap1
            refine step_append_src _ (by rfl) _ _ 64 64 (by rfl) 0 73 i5 (.agg #[.int .i64 0, .string ⟨#[]⟩, .string ⟨#[]⟩, .int .i64 0, .int .i64 0]) 5 56 Try.underlying64 hi hz0 hz1 hz2 rfl _ h.ms.length (flat memC h.ms) (by rfl) hs.head _ 1 _ (by rfl) hsr (by unfold maxLen; omega) (by omega) (Nat.zero_le _) ?_
            intro v' W hown' hgrow hat
            have hown2 : W.ownsRow 0 73 5 v' (h.ms.length + 1) (flat memC (h.ms ++ [Mem.mk (h.lm + 1) room user til rights])) := by simpa [flat_append, flat] using hown'
            obtain ⟨A10, c10, rfl⟩ := own_form hown2
            replace hs := (hs.grown hgrow hown2 hat).swap1
            clear hown' hown2 hgrow hat hsr
            try clear hHeld
            refine hK.out _ _ (by (try dsimp only); first | exact joKeep (hs.at 0 rfl) (hs.at 4 rfl) | exact joKeep ((hs.grow _).at 0 rfl) ((hs.grow _).at 4 rfl)) (fun hHeld => ?_)
            clear hK K
            try simp only [Act.put, List.getElem_toArray, List.getElem_cons_zero, List.getElem_cons_succ, List.setIfInBounds_toArray, List.set_cons_zero, List.set_cons_succ]
            refine wpAnyH_take (i := 13) (oi := _) (v := ?_) rfl (by kernel_rfl) (by kernel_rfl) (by kernel_rfl) (fun _ _ _ h => h) (Or.inl ⟨by rfl, ?_⟩) (by assumption) ?_
            rotate_left
            · (intro w hSw; (try dsimp only at hSw); go_simp; try with_reducible rfl)
            try simp only [Act.put, List.getElem_toArray, List.getElem_cons_zero, List.getElem_cons_succ, List.setIfInBounds_toArray, List.set_cons_zero, List.set_cons_succ]
            refine wpAnyH_take (i := 14) (oi := _) (v := ?_) rfl (by kernel_rfl) (by kernel_rfl) (by kernel_rfl) (fun _ _ _ h => h) (Or.inl ⟨by rfl, ?_⟩) (by assumption) ?_
            rotate_left
            · (intro w hSw; (try dsimp only at hSw); go_simp; try with_reducible rfl)
            try simp only [Act.put, List.getElem_toArray, List.getElem_cons_zero, List.getElem_cons_succ, List.setIfInBounds_toArray, List.set_cons_zero, List.set_cons_succ]
            refine wpAnyH_ready (rs := [15]) (by kernel_rfl) (by simp) ?_
            refine (AllReadyH.cons (o := _) rfl (fun K hK => ?_) AllReadyH.nil)
            obtain ⟨hcQ, hfQ, hlQ⟩ := Blk.all (show Blk W p 66 _ from hs.at 4 rfl)
            go_simp
            replace hs := hs.set4 0 (.slice A10 (h.ms.length + 1) c10)
            try clear hHeld
            refine hK.out _ _ (by (try dsimp only); first | exact joKeep (hs.at 0 rfl) (hs.at 4 rfl) | exact joKeep ((hs.grow _).at 0 rfl) ((hs.grow _).at 4 rfl)) (fun hHeld => ?_)
            clear hK K
            try simp only [Act.put, List.getElem_toArray, List.getElem_cons_zero, List.getElem_cons_succ, List.setIfInBounds_toArray, List.set_cons_zero, List.set_cons_succ]
            clear hcQ hfQ hlQ
            refine wpAnyH_done (by kernel_rfl) ?_ _
            generalize World.setCell _ _ _ = W at hs ⊢
            have HE4 := Lib.hid (show (h.ms ++ [Mem.mk (h.lm + 1) room user til rights]).length = h.ms.length + 1 by simp)
            have hs' : St I (bk w.heap.size 52 #[.string room, .string user, .int .i64 til, .int .i64 rights] :: hou p { h with ms := h.ms ++ [⟨h.lm + 1, room, user, til, rights⟩], lm := h.lm + 1 } (.slice A10 (h.ms.length + 1) c10) vT vS M) W := by (unfold hou; dsimp only; rw [HE4.out]; exact hs)
            have HS := Lib.hid hs'
            have hcl : W.cell? ⟨p, 3, none⟩ = some (.int .i64 (h.lm + 1)) := Blk.cell (hs'.at 4 rfl) 3
            clear hs hs'
            go_wp2
            go_returns
            refine Ret.mk (.refl I) HS.out.drop ⟨rfl, ?_⟩
            rw [HE3.out]
            exact ⟨rfl, _, rfl⟩
          · skip
            have hsr := hs.litSrcV (P := Try.prog) (t := 64) (e := 73) (cs := #[.int .i64 (h.lm + 1), .string room, .string user, .int .i64 til, .int .i64 rights]) (n := 1) (size := 5) rfl (by decide) Try.underlying64 (by simp [Value.oneCell'])
            go_simp
            try clear hHeld
            refine hK.out _ _ (by (try dsimp only); first | exact joKeep (hs.at 0 rfl) (hs.at 4 rfl) | exact joKeep ((hs.grow _).at 0 rfl) ((hs.grow _).at 4 rfl)) (fun hHeld => ?_)
            clear hK K
            try simp only [Act.put, List.getElem_toArray, List.getElem_cons_zero, List.getElem_cons_succ, List.setIfInBounds_toArray, List.set_cons_zero, List.set_cons_succ]
            generalize hw : World.alloc W _ = W at hHeld hsr ⊢
            replace hs := hs.growTo hw
            clear hw
            refine wpAnyH_ready (rs := [4]) (by kernel_rfl) (by simp) ?_
            refine (AllReadyH.cons (o := _) rfl (fun K hK => ?_) AllReadyH.nil)
            have hcQ : W.cell? ⟨p, 0, none⟩ = some (.slice A h.ms.length c) := Blk.cell (hs.at 4 rfl) 0
            go_simp
            try clear hHeld
            refine hK.out _ _ (by (try dsimp only); first | exact joKeep (hs.at 0 rfl) (hs.at 4 rfl) | exact joKeep ((hs.grow _).at 0 rfl) ((hs.grow _).at 4 rfl)) (fun hHeld => ?_)
            clear hK K
            try simp only [Act.put, List.getElem_toArray, List.getElem_cons_zero, List.getElem_cons_succ, List.setIfInBounds_toArray, List.set_cons_zero, List.set_cons_succ]
            clear hcQ
            refine wpAnyH_ready (rs := [12]) (by kernel_rfl) (by simp) ?_
            refine (AllReadyH.cons (o := _) rfl (fun K hK => ?_) AllReadyH.nil)
            replace hs := hs.swap1
            refine step_append_src _ (by rfl) _ _ 64 64 (by rfl) 0 73 i5 (.agg #[.int .i64 0, .string ⟨#[]⟩, .string ⟨#[]⟩, .int .i64 0, .int .i64 0]) 5 56 Try.underlying64 hi hz0 hz1 hz2 rfl _ h.ms.length (flat memC h.ms) (by rfl) hs.head _ 1 _ (by rfl) hsr (by unfold maxLen; omega) (by omega) (Nat.zero_le _) ?_
            intro v' W hown' hgrow hat
            have hown2 : W.ownsRow 0 73 5 v' (h.ms.length + 1) (flat memC (h.ms ++ [Mem.mk (h.lm + 1) room user til rights])) := by simpa [flat_append, flat] using hown'
            obtain ⟨A10, c10, rfl⟩ := own_form hown2
            replace hs := (hs.grown hgrow hown2 hat).swap1
            clear hown' hown2 hgrow hat hsr
            try clear hHeld
            refine hK.out _ _ (by (try dsimp only); first | exact joKeep (hs.at 0 rfl) (hs.at 4 rfl) | exact joKeep ((hs.grow _).at 0 rfl) ((hs.grow _).at 4 rfl)) (fun hHeld => ?_)
            clear hK K
            try simp only [Act.put, List.getElem_toArray, List.getElem_cons_zero, List.getElem_cons_succ, List.setIfInBounds_toArray, List.set_cons_zero, List.set_cons_succ]
            refine wpAnyH_take (i := 13) (oi := _) (v := ?_) rfl (by kernel_rfl) (by kernel_rfl) (by kernel_rfl) (fun _ _ _ h => h) (Or.inl ⟨by rfl, ?_⟩) (by assumption) ?_
            rotate_left
            · (intro w hSw; (try dsimp only at hSw); go_simp; try with_reducible rfl)
            try simp only [Act.put, List.getElem_toArray, List.getElem_cons_zero, List.getElem_cons_succ, List.setIfInBounds_toArray, List.set_cons_zero, List.set_cons_succ]
            refine wpAnyH_take (i := 14) (oi := _) (v := ?_) rfl (by kernel_rfl) (by kernel_rfl) (by kernel_rfl) (fun _ _ _ h => h) (Or.inl ⟨by rfl, ?_⟩) (by assumption) ?_
            rotate_left
            · (intro w hSw; (try dsimp only at hSw); go_simp; try with_reducible rfl)
            try simp only [Act.put, List.getElem_toArray, List.getElem_cons_zero, List.getElem_cons_succ, List.setIfInBounds_toArray, List.set_cons_zero, List.set_cons_succ]
            refine wpAnyH_ready (rs := [15]) (by kernel_rfl) (by simp) ?_
            refine (AllReadyH.cons (o := _) rfl (fun K hK => ?_) AllReadyH.nil)
            obtain ⟨hcQ, hfQ, hlQ⟩ := Blk.all (show Blk W p 66 _ from hs.at 4 rfl)
            go_simp
            replace hs := hs.set4 0 (.slice A10 (h.ms.length + 1) c10)
            try clear hHeld
            refine hK.out _ _ (by (try dsimp only); first | exact joKeep (hs.at 0 rfl) (hs.at 4 rfl) | exact joKeep ((hs.grow _).at 0 rfl) ((hs.grow _).at 4 rfl)) (fun hHeld => ?_)
            clear hK K
            try simp only [Act.put, List.getElem_toArray, List.getElem_cons_zero, List.getElem_cons_succ, List.setIfInBounds_toArray, List.set_cons_zero, List.set_cons_succ]
            clear hcQ hfQ hlQ
            refine wpAnyH_done (by kernel_rfl) ?_ _
            generalize World.setCell _ _ _ = W at hs ⊢
            have HE4 := Lib.hid (show (h.ms ++ [Mem.mk (h.lm + 1) room user til rights]).length = h.ms.length + 1 by simp)
            have hs' : St I (bk w.heap.size 52 #[.string room, .string user, .int .i64 til, .int .i64 rights] :: hou p { h with ms := h.ms ++ [⟨h.lm + 1, room, user, til, rights⟩], lm := h.lm + 1 } (.slice A10 (h.ms.length + 1) c10) vT vS M) W := by (unfold hou; dsimp only; rw [HE4.out]; exact hs)
            have HS := Lib.hid hs'
            have hcl : W.cell? ⟨p, 3, none⟩ = some (.int .i64 (h.lm + 1)) := Blk.cell (hs'.at 4 rfl) 3
            clear hs hs'
            go_wp2
            go_returns
            refine Ret.mk (.refl I) HS.out.drop ⟨rfl, ?_⟩
            rw [HE3.out]
            exact ⟨rfl, _, rfl⟩
        · have hyes : q = 8 ∨ q = 0 ∧ d = 4 := by
            simpa using hcond
          have HE3 := Lib.hid (HE2.out.trans (if_pos hyes))
          clear hcond hyes HE2
          go_wp2
          go_returns
          refine Ret.mk (.refl I) HS.out.drop.drop ⟨rfl, ?_⟩
          rw [HE3.out]
          exact ⟨rfl, _, rfl⟩
end Go.Proofs.Ytbaobonlolbnpaa
