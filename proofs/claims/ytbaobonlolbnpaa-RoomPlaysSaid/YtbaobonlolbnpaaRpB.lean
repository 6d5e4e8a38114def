/- rostrumref23.House.Join. -/
import Derived.Test.YtbaobonlolbnpaaRpA
namespace Go.Proofs.Ytbaobonlolbnpaa
open Go.RowKit
set_option linter.unusedSimpArgs false

abbrev strs (l : List ByteArray) : List Value := l.map Value.string
theorem info9 : (Try.prog.info? 9).map (fun i => (i.zero, i.size, i.bytes)) = some (some (.string ⟨#[]⟩), 1, 16) := by kernel_rfl
/-- the names met so far, each once -/
def Once (L l : List ByteArray) : Prop := l.length = (dist L).length ∧ ∀ s : ByteArray, l.any (fun y => y.toList == s.toList) = L.any (fun y => y.toList == s.toList)
theorem Once.old {L l : List ByteArray} (h : Once L l) {s : ByteArray} (hs : l.any (fun y => y.toList == s.toList) = true) : Once (s :: L) l := by
  have h2 := h.2 s
  rw [hs] at h2
  refine ⟨?_, fun u => ?_⟩
  · simp only [dist, ← h2, if_true]; exact h.1
  · rw [List.any_cons, ← h.2 u]
    cases hu : (s.toList == u.toList)
    · rfl
    · simp only [beq_iff_eq] at hu
      rw [← hu, hs]; rfl
theorem Once.new {L l : List ByteArray} (h : Once L l) {s : ByteArray} (hs : l.any (fun y => y.toList == s.toList) = false) : Once (s :: L) (l ++ [s]) := by
  have h2 := h.2 s
  rw [hs] at h2
  refine ⟨?_, fun u => ?_⟩
  · simp only [dist, ← h2, List.length_append, List.length_cons, List.length_nil]
    rw [if_neg (by simp), List.length_cons, h.1]
  · rw [List.any_cons, ← h.2 u, List.any_append]
    simp [Bool.or_comm]
theorem cnt_cons (L : List ByteArray) (x s : ByteArray) : cnt (x :: L) s = cnt L s + (if (x.toList == s.toList) = true then 1 else 0) := by
  unfold cnt
  rw [List.filter_cons]
  split <;> simp_all
theorem any_take_succ {l : List ByteArray} {s : ByteArray} {j : Nat} (hj : j < l.length) : (l.take (j + 1)).any (fun y => y.toList == s.toList) = ((l.take j).any (fun y => y.toList == s.toList) || (l[j].toList == s.toList)) := by
  rw [List.take_succ_eq_append_getElem hj, List.any_append]
  simp
theorem kp4 {w : World} {q t : Nat} {a b c d : Value} (h : Blk w q t #[a, b, c, d]) : w.cell? ⟨q, 0, none⟩ = some a ∧ w.cell? ⟨q, 1, none⟩ = some b ∧ w.cell? ⟨q, 2, none⟩ = some c ∧ w.cell? ⟨q, 3, none⟩ = some d := ⟨h.cell 0, h.cell 1, h.cell 2, h.cell 3⟩
theorem joKeepR {w : World} {q p : Nat} {a b c d x y z u v : Value} (h1 : Blk w q 30 #[a, b, c, d]) (h2 : Blk w p 71 #[x, y, z, u, v]) : (w.cell? ⟨q, 0, none⟩ = some a ∧ w.cell? ⟨q, 1, none⟩ = some b ∧ w.cell? ⟨q, 2, none⟩ = some c ∧ w.cell? ⟨q, 3, none⟩ = some d) ∧ w.cell? ⟨p, 3, none⟩ = some u := ⟨⟨h1.cell 0, h1.cell 1, h1.cell 2, h1.cell 3⟩, h2.cell 3⟩
def JR (p : Nat) (vT vS : Value) (M : List Res) (r : Ho × Int × Int) (v : Value) (M' : List Res) : Prop := v = .tuple #[.int .i64 r.2.1, .int .i64 r.2.2] ∧ ∃ vM', M' = houR p r.1 vM' vT vS M
set_option maxRecDepth 8000 in
set_option maxHeartbeats 16000000 in
theorem joinR (I : Img) (M : List Res) (w : World) (p : Nat) (h : Ho) (vM vT vS : Value) (room user : ByteArray) (til rights : Int) (hst : St I (houR p h vM vT vS M) w) (hl : h.ms.length ≤ 1000000) (hlm : 0 ≤ h.lm ∧ h.lm ≤ 1000000) (hr : room.size ≤ maxLen) (hu : user.size ≤ maxLen) (hc8 : cnt (roomsL h.ms) room ≤ 8) (hd4 : (dist (roomsL h.ms)).length ≤ 4) :
    Calls Try.prog 28 #[.pointer (some ⟨p, 0, none⟩), .agg #[.string room, .string user, .int .i64 til, .int .i64 rights]] w (Ret I (fun v J M' => I = J ∧ JR p vT vS M (joinS h room user til rights) v M')) := by
  have hst1 := hst.alloc 30 #[.string room, .string user, .int .i64 til, .int .i64 rights]
  obtain ⟨hc0, _, _⟩ := Blk.all hst1.head
  have H1 := Lib.hid hst1
  clear hst hst1
  go_enter Try.func28, Try.ntmps28
  cases hw1 : wordB room 1 32
  · have HE := Lib.hid (show joinS h room user til rights = (h, 0, 1) by unfold joinS; rw [if_pos (.inl hw1)])
    go_wp2_with (go_at_call 51; refine (wordR room 1 32 _ hr).mono ?_; rw [hw1]; rintro e w1 ⟨rfl, hw'⟩; subst w1)
    go_returns
    refine Ret.mk (.refl I) H1.out.drop ⟨rfl, ?_⟩
    rw [HE.out]
    exact ⟨rfl, vM, rfl⟩
  cases hw2 : wordB user 1 32
  · have HE := Lib.hid (show joinS h room user til rights = (h, 0, 1) by unfold joinS; rw [if_pos (.inr (.inl hw2))])
    go_wp2_with fail
    refine (wordR room 1 32 _ hr).mono ?_
    rw [hw1]
    rintro e w1 ⟨rfl, hw'⟩
    subst w1
    go_wp2_with (go_at_call 51; refine (wordR user 1 32 _ hu).mono ?_; rw [hw2]; rintro e w1 ⟨rfl, hw'⟩; subst w1)
    go_returns
    refine Ret.mk (.refl I) H1.out.drop ⟨rfl, ?_⟩
    rw [HE.out]
    exact ⟨rfl, vM, rfl⟩
  go_wp2_with fail
  refine (wordR room 1 32 _ hr).mono ?_
  rw [hw1]
  rintro e w1 ⟨rfl, hw'⟩
  subst w1
  go_wp2_with fail
  refine (wordR user 1 32 _ hu).mono ?_
  rw [hw2]
  rintro e w1 ⟨rfl, hw'⟩
  subst w1
  by_cases hr0 : rights < 0
  · have HE := Lib.hid (show joinS h room user til rights = (h, 0, 1) by unfold joinS; rw [if_pos (.inr (.inr (.inl hr0)))])
    go_wp2
    go_returns
    refine Ret.mk (.refl I) H1.out.drop ⟨rfl, ?_⟩
    rw [HE.out]
    exact ⟨rfl, vM, rfl⟩
  by_cases hr7 : 7 < rights
  · have HE := Lib.hid (show joinS h room user til rights = (h, 0, 1) by unfold joinS; rw [if_pos (.inr (.inr (.inr hr7)))])
    go_wp2
    go_returns
    refine Ret.mk (.refl I) H1.out.drop ⟨rfl, ?_⟩
    rw [HE.out]
    exact ⟨rfl, vM, rfl⟩
  have hE : joinS h room user til rights = if h.ms.any (fun m => m.room.toList == room.toList && m.user.toList == user.toList) = true then (h, 0, 9)
      else if cnt (roomsL h.ms) room = 8 ∨ cnt (roomsL h.ms) room = 0 ∧ (dist (roomsL h.ms)).length = 4 then (h, 0, 6)
      else ({ h with ms := h.ms ++ [⟨h.lm + 1, room, user, til, rights⟩], lm := h.lm + 1 }, h.lm + 1, 0) := by
    unfold joinS
    rw [if_neg]
    rw [hw1, hw2]
    intro hx
    rcases hx with hx | hx | hx | hx
    · cases hx
    · cases hx
    · exact hr0 hx
    · exact hr7 hx
  have HE := Lib.hid hE
  have hr0' : 0 ≤ rights := by omega
  have hr7' : rights ≤ 7 := by omega
  have hs1 := H1.out.nil (e := 9) (size := 1)
  obtain ⟨hcP, _, hlP⟩ := Blk.all (hs1.at 5 rfl)
  obtain ⟨A, c, rfl⟩ := own_form (show World.ownsRow _ 0 90 5 vM _ _ from hs1.at 2 rfl)
  have HS0 := Lib.hid hs1
  clear hE hr0 hr7 hw1 hw2 H1 hs1
  go_upto_region 6 with fail
  clear hcP hlP hc0
  go_loopw [6, 7, 37] (fun nv lv iv wr => ∃ (k n : Nat) (B : Option Addr) (cb : Nat) (l : List ByteArray), k ≤ h.ms.length ∧ n ≤ k ∧ l.length ≤ k ∧ nv = .int .i64 n ∧ iv = .int .i64 k ∧ lv = .slice B l.length cb ∧ Hid (n = cnt (roomsL (h.ms.take k)) room ∧ Once (roomsL (h.ms.take k)) l ∧ (∀ j (hj : j < h.ms.length), j < k → (h.ms[j].room.toList == room.toList && h.ms[j].user.toList == user.toList) = false) ∧ St I (row 9 1 (.slice B l.length cb) l.length (strs l) :: bk w.heap.size 30 #[.string room, .string user, .int .i64 til, .int .i64 rights] :: houR p h (.slice A h.ms.length c) vT vS M) wr)) (fun _ _ iv _ => h.ms.length - (intOf iv).toNat)
  case atStart => exact ⟨0, 0, none, 0, [], by omega, by omega, Nat.le_refl _, rfl, rfl, rfl, rfl, ⟨rfl, fun s => rfl⟩, fun j hj h => by omega, HS0.out⟩
  case round =>
    obtain ⟨k, n, B, cb, l, hk, hnk, hlk, rfl, rfl, rfl, hh⟩ := hrel
    obtain ⟨hn, hon, hno, hs⟩ := hh.out
    have HN := Lib.hid hn
    have HO := Lib.hid hon
    have HNO := Lib.hid hno
    clear hh HS0 hn hon hno
    obtain ⟨hc0, _, hl0⟩ := Blk.all (hs.at 1 rfl)
    obtain ⟨hcP, _, hlP⟩ := Blk.all (hs.at 5 rfl)
    by_cases hlt : k < h.ms.length
    · obtain ⟨g, rfl, _, hcc, hg, hcell, _⟩ := flat_cell (f := memC) (s := 5) (fun _ => rfl) hs.swap2 (by omega) (by decide)
      obtain ⟨x, hx⟩ : ∃ x, x = h.ms[k] := ⟨_, rfl⟩
      have z0 : wr.cell? ⟨g, k * 5, none⟩ = some (.int .i64 h.ms[k].id) := hcell k hlt 0 (by decide)
      have z1 : wr.cell? ⟨g, k * 5 + 1, none⟩ = some (.string h.ms[k].room) := hcell k hlt 1 (by decide)
      have z2 : wr.cell? ⟨g, k * 5 + 2, none⟩ = some (.string h.ms[k].user) := hcell k hlt 2 (by decide)
      have z3 : wr.cell? ⟨g, k * 5 + 3, none⟩ = some (.int .i64 h.ms[k].til) := hcell k hlt 3 (by decide)
      have z4 : wr.cell? ⟨g, k * 5 + 4, none⟩ = some (.int .i64 h.ms[k].rights) := hcell k hlt 4 (by decide)
      have hsnoc : roomsL (h.ms.take (k + 1)) = x.room :: roomsL (h.ms.take k) := by rw [List.take_succ_eq_append_getElem hlt, roomsL_snoc, hx]
      rw [← hx] at z0 z1 z2 z3 z4
      have HX := Lib.hid hx
      have HSN := Lib.hid hsnoc
      have hs2 := hs.alloc 30 #[.string x.room, .string x.user, .int .i64 x.til, .int .i64 x.rights]
      have HS2 := Lib.hid hs2
      clear hcell hx hsnoc hs hs2
      go_upto_region 11 with fail
      clear hc0 hl0 hcP hlP z0 z1 z2 z3 z4 hg
      go_loopw [10, 50] (fun tv jv wx => ∃ (j : Nat) (t : Bool), j ≤ l.length ∧ jv = .int .i64 j ∧ tv = .bool t ∧ Hid (t = (l.take j).any (fun y => y.toList == x.room.toList) ∧ St I (bk wr.heap.size 30 #[.string x.room, .string x.user, .int .i64 x.til, .int .i64 x.rights] :: row 9 1 (.slice B l.length cb) l.length (strs l) :: bk w.heap.size 30 #[.string room, .string user, .int .i64 til, .int .i64 rights] :: houR p h (.slice (some ⟨g, 0, none⟩) h.ms.length c) vT vS M) wx)) (fun _ jv _ => l.length - (intOf jv).toNat)
      case atStart => exact ⟨0, false, by omega, rfl, rfl, rfl, HS2.out⟩
      case round =>
        obtain ⟨j, t, hj, rfl, rfl, hh⟩ := hrel
        obtain ⟨ht, hs⟩ := hh.out
        have HT := Lib.hid ht
        clear hh HS2 ht
        by_cases hjl : j < l.length
        · obtain ⟨g5, rfl, _, hc5, hg5, hcell5, _⟩ := St.rowCells hs.swap1 (by rw [List.length_map]; omega)
          have y0 := hcell5 j (by rw [List.length_map]; exact hjl)
          rw [List.getElem_map] at y0
          have hnx := any_take_succ (s := x.room) hjl
          rw [← HT.out] at hnx
          obtain ⟨u, hu⟩ : ∃ u, u = l[j] := ⟨_, rfl⟩
          rw [← hu] at y0 hnx
          have HNX := Lib.hid hnx
          obtain ⟨hc1, _, hl1⟩ := Blk.all (hs.at 0 rfl)
          have HS := Lib.hid hs
          clear hcell5 hu hs hnx
          go_upto_region 13 with fail
          cases t
          · cases hb : (u.toList == x.room.toList)
            all_goals
              have HT2 := Lib.hid (HNX.out.trans (by rw [hb]))
              go_quiet (fail)
              go_wp2
              go_roundw
              case rel => exact ⟨j + 1, _, by omega, by go_num, rfl, by rw [HT2.out]; rfl, HS.out.drewN _⟩
              case measure => simp [intOf]; omega
          · have HT2 := Lib.hid (HNX.out.trans (Bool.true_or _))
            go_quiet (fail)
            go_wp2
            go_roundw
            case rel => exact ⟨j + 1, _, by omega, by go_num, rfl, HT2.out.symm, HS.out.drewN _⟩
            case measure => simp [intOf]; omega
        · have hj2 : (l.length : Int) ≤ j := by omega
          have ht2 : t = l.any (fun y => y.toList == x.room.toList) := by rw [HT.out, List.take_of_length_le (by omega)]
          have HT2 := Lib.hid ht2
          clear hjl HT ht2
          obtain ⟨hc1, _, hl1⟩ := Blk.all (hs.at 0 rfl)
          obtain ⟨hc0, _, hl0⟩ := Blk.all (hs.at 2 rfl)
          have HS := Lib.hid hs
          clear hs
          cases t
          rotate_left
          · have HO2 := Lib.hid (HO.out.old HT2.out.symm)
            rw [← HSN.out] at HO2
            clear HO HT2
            cases hroom : (x.room.toList == room.toList)
            · have HN2 := Lib.hid (show n = cnt (roomsL (h.ms.take (k + 1))) room by rw [HSN.out, cnt_cons, hroom, ← HN.out]; rfl)
              have HNO2 := Lib.hid (show ∀ j (hj : j < h.ms.length), j < k + 1 → (h.ms[j].room.toList == room.toList && h.ms[j].user.toList == user.toList) = false from fun j hj h1 => by
                by_cases e : j = k
                · subst e; rw [← HX.out, hroom]; rfl
                · exact HNO.out j hj (by omega))
              clear HNO HN
              go_wp2
              go_roundw
              case rel => exact ⟨k + 1, n, _, _, l, by omega, by omega, by omega, rfl, by go_num, rfl, HN2.out, HO2.out, HNO2.out, HS.out.drop⟩
              case measure => simp [intOf]; omega
            · cases huser : (x.user.toList == user.toList)
              · have HN2 := Lib.hid (show n + 1 = cnt (roomsL (h.ms.take (k + 1))) room by rw [HSN.out, cnt_cons, hroom, ← HN.out]; rfl)
                have HNO2 := Lib.hid (show ∀ j (hj : j < h.ms.length), j < k + 1 → (h.ms[j].room.toList == room.toList && h.ms[j].user.toList == user.toList) = false from fun j hj h1 => by
                  by_cases e : j = k
                  · subst e; rw [← HX.out, hroom, huser]; rfl
                  · exact HNO.out j hj (by omega))
                clear HNO HN
                go_wp2
                go_roundw
                case rel => exact ⟨k + 1, n + 1, _, _, l, by omega, by omega, by omega, by go_num, by go_num, rfl, HN2.out, HO2.out, HNO2.out, HS.out.drop⟩
                case measure => simp [intOf]; omega
              · have hany : h.ms.any (fun m => m.room.toList == room.toList && m.user.toList == user.toList) = true := List.any_eq_true.2 ⟨x, by rw [HX.out]; exact List.getElem_mem hlt, by rw [hroom, huser]; rfl⟩
                have HE9 := Lib.hid (HE.out.trans (if_pos hany))
                clear hany
                go_wp2
                go_returns
                refine Ret.mk (.refl I) HS.out.drop.drop.drop ⟨rfl, ?_⟩
                rw [HE9.out]
                exact ⟨rfl, _, rfl⟩
          · obtain ⟨i3, hi, hz0, hz1, hz2⟩ := info_parts info9
            have HO2 := Lib.hid (HO.out.new HT2.out.symm)
            rw [← HSN.out] at HO2
            have hs0 := HS.out.litSrcV (P := Try.prog) (t := 33) (e := 9) (cs := #[.string x.room]) (n := 1) (size := 1) rfl (by decide) Try.underlying33 (by simp [Value.oneCell'])
            have Hs := Lib.hid hs0
            have HG := Lib.hid ((HS.out.grow (.cells #[.string x.room] 9)).swap1)
            clear HO HT2 hs0 HS
            go_wp2_with (at_builtin; refine wpList_append_src _ rfl _ _ 33 33 rfl 0 9 i3 (.string ⟨#[]⟩) 1 16 Try.underlying33 hi hz0 hz1 hz2 rfl _ l.length (strs l) rfl HG.out.head _ 1 _ rfl Hs.out (by unfold maxLen; omega) (by omega) (Nat.zero_le _) ?_)
            intro v' w' hown hgrow hat
            have hown2 : w'.ownsRow 0 9 1 v' (l ++ [x.room]).length (strs (l ++ [x.room])) := by simpa [strs] using hown
            have hs3 := (HG.out.grown hgrow hown2 (by simpa using hat)).swap1
            obtain ⟨B', c', rfl⟩ := own_form hown2
            clear hown hown2 hgrow hat HG Hs hc0 hc1 hl0 hl1
            obtain ⟨n2, hn2⟩ : ∃ n2, n2 = (l ++ [x.room]).length := ⟨_, rfl⟩
            have hn3 : n2 = l.length + 1 := by rw [hn2]; simp
            rw [← hn2] at hs3 ⊢
            obtain ⟨hc1, _, hl1⟩ := Blk.all (hs3.at 0 rfl)
            obtain ⟨hc0, _, hl0⟩ := Blk.all (hs3.at 2 rfl)
            have HS := Lib.hid hs3
            have HN9 := Lib.hid hn2
            clear hs3 hn2
            cases hroom : (x.room.toList == room.toList)
            · have HN2 := Lib.hid (show n = cnt (roomsL (h.ms.take (k + 1))) room by rw [HSN.out, cnt_cons, hroom, ← HN.out]; rfl)
              have HNO2 := Lib.hid (show ∀ j (hj : j < h.ms.length), j < k + 1 → (h.ms[j].room.toList == room.toList && h.ms[j].user.toList == user.toList) = false from fun j hj h1 => by
                by_cases e : j = k
                · subst e; rw [← HX.out, hroom]; rfl
                · exact HNO.out j hj (by omega))
              clear HNO HN
              go_wp2
              go_roundw
              case rel => exact ⟨k + 1, n, _, _, l ++ [x.room], by omega, by omega, by rw [← HN9.out]; omega, rfl, by go_num, by rw [← HN9.out], HN2.out, HO2.out, HNO2.out, (by rw [← HN9.out]; exact HS.out.drop)⟩
              case measure => simp [intOf]; omega
            · cases huser : (x.user.toList == user.toList)
              · have HN2 := Lib.hid (show n + 1 = cnt (roomsL (h.ms.take (k + 1))) room by rw [HSN.out, cnt_cons, hroom, ← HN.out]; rfl)
                have HNO2 := Lib.hid (show ∀ j (hj : j < h.ms.length), j < k + 1 → (h.ms[j].room.toList == room.toList && h.ms[j].user.toList == user.toList) = false from fun j hj h1 => by
                  by_cases e : j = k
                  · subst e; rw [← HX.out, hroom, huser]; rfl
                  · exact HNO.out j hj (by omega))
                clear HNO HN
                go_wp2
                go_roundw
                case rel => exact ⟨k + 1, n + 1, _, _, l ++ [x.room], by omega, by omega, by rw [← HN9.out]; omega, by go_num, by go_num, by rw [← HN9.out], HN2.out, HO2.out, HNO2.out, (by rw [← HN9.out]; exact HS.out.drop)⟩
                case measure => simp [intOf]; omega
              · have hany : h.ms.any (fun m => m.room.toList == room.toList && m.user.toList == user.toList) = true := List.any_eq_true.2 ⟨x, by rw [HX.out]; exact List.getElem_mem hlt, by rw [hroom, huser]; rfl⟩
                have HE9 := Lib.hid (HE.out.trans (if_pos hany))
                clear hany
                go_wp2
                go_returns
                refine Ret.mk (.refl I) HS.out.drop.drop.drop ⟨rfl, ?_⟩
                rw [HE9.out]
                exact ⟨rfl, _, rfl⟩
    · have hk' : k = h.ms.length := by omega
      have hk2 : (h.ms.length : Int) ≤ k := by omega
      have HNO2 := Lib.hid (any_no (h := h) (room := room) (user := user) (fun j hj => HNO.out j hj (by omega)))
      have HE2 := Lib.hid (HE.out.trans (if_neg HNO2.out))
      have hn := HN.out
      have ho := HO.out.1
      rw [hk', List.take_length] at hn ho
      rw [← hn] at hc8
      rw [← ho] at hd4
      rw [← hn, ← ho] at HE2
      have HS := Lib.hid hs.drop
      clear hlt hk' hn ho hs HN HO HNO HNO2 HE
      go_upto_region 22 with fail
      by_cases h8 : n = 8
      · subst h8
        have HE3 := Lib.hid (HE2.out.trans (if_pos (.inl rfl)))
        go_wp2
        go_returns
        refine Ret.mk (.refl I) HS.out.drop ⟨rfl, ?_⟩
        rw [HE3.out]
        exact ⟨rfl, _, rfl⟩
      by_cases h04 : n = 0 ∧ l.length = 4
      · obtain ⟨h0, h4⟩ := h04
        subst h0
        have HE3 := Lib.hid (HE2.out.trans (if_pos (.inr ⟨rfl, h4⟩)))
        rw [h4]
        go_wp2
        go_returns
        refine Ret.mk (.refl I) HS.out.drop ⟨rfl, ?_⟩
        rw [HE3.out]
        exact ⟨rfl, _, rfl⟩
      have HE3 := Lib.hid (HE2.out.trans (if_neg (fun hx => hx.elim h8 h04)))
      clear HE2
      go_cut [94] (fun v wx => v = .bool false ∧ wx = wr)
      case first =>
        have hn7 : (n : Int) ≤ 7 := by omega
        by_cases h0 : n = 0
        · subst h0
          have hl3 : (l.length : Int) ≤ 3 := by omega
          clear h8 h04
          go_wp2
          go_meet
          exact ⟨by first | rfl | trivial | (simp; omega), by first | rfl | trivial⟩
        · have h0' : ((n : Int) == 0) = false := by simp; omega
          clear h8 h04 h0
          go_wp2
          go_meet
          exact ⟨by first | rfl | trivial | (simp; omega), by first | rfl | trivial⟩
      case rest =>
        obtain ⟨rfl, rfl⟩ := hcut
        clear hcP hlP h8 h04
        obtain ⟨hcP, hfP, hlP⟩ := Blk.all (HS.out.at 4 rfl)
        go_upto_region 25 with fail
        have hs0 := HS.out.set4 3 (.int .i64 (h.lm + 1))
        generalize World.setCell _ _ _ = W at hs0 ⊢
        have hs : St I (bk w.heap.size 30 #[.string room, .string user, .int .i64 til, .int .i64 rights] :: houR p { h with lm := h.lm + 1 } (.slice A h.ms.length c) vT vS M) (World.drew W) := hs0.drew
        clear hs0 HS hc0 hl0 hcP hfP hlP
        obtain ⟨i5, hi, hz0, hz1, hz2⟩ := info_parts info90
        have hnp : (h.ms.length + 1) * 56 ≤ 140737488355328 := by omega
        refine wp_region_held_drew (S := (fun w' => (w'.cell? ⟨w.heap.size, 0, none⟩ = some (.string room) ∧ w'.cell? ⟨w.heap.size, 1, none⟩ = some (.string user) ∧ w'.cell? ⟨w.heap.size, 2, none⟩ = some (.int .i64 til) ∧ w'.cell? ⟨w.heap.size, 3, none⟩ = some (.int .i64 rights)) ∧ w'.cell? ⟨p, 3, none⟩ = some (.int .i64 (h.lm + 1)))) (by kernel_rfl) (by (try dsimp only); first | exact joKeepR (hs.at 0 rfl) (hs.at 4 rfl) | exact joKeepR ((hs.grow _).at 0 rfl) ((hs.grow _).at 4 rfl)) (fun hHeld => ?_)
        generalize World.drew W = W at hs hHeld ⊢
        refine wpAnyH_take (i := 0) (oi := _) (v := ?_) rfl (by kernel_rfl) (by kernel_rfl) (by kernel_rfl) (fun _ _ _ h => h) (Or.inl ⟨by rfl, ?_⟩) (by assumption) ?_
        rotate_left
        · (intro w hSw; (try dsimp only at hSw); go_simp; try with_reducible rfl)
        try simp only [Act.put, List.getElem_toArray, List.getElem_cons_zero, List.getElem_cons_succ, List.setIfInBounds_toArray, List.set_cons_zero, List.set_cons_succ]
        refine wpAnyH_take (i := 1) (oi := _) (v := ?_) rfl (by kernel_rfl) (by kernel_rfl) (by kernel_rfl) (fun _ _ _ h => h) (Or.inl ⟨by rfl, ?_⟩) (by assumption) ?_
        rotate_left
        · (intro w hSw; (try dsimp only at hSw); go_simp; try with_reducible rfl)
        try simp only [Act.put, List.getElem_toArray, List.getElem_cons_zero, List.getElem_cons_succ, List.setIfInBounds_toArray, List.set_cons_zero, List.set_cons_succ]
        refine wpAnyH_take (i := 2) (oi := _) (v := ?_) rfl (by kernel_rfl) (by kernel_rfl) (by kernel_rfl) (fun _ _ _ h => h) (Or.inl ⟨by rfl, ?_⟩) (by assumption) ?_
        rotate_left
        · (intro w hSw; (try dsimp only at hSw); go_simp; try with_reducible rfl)
        try simp only [Act.put, List.getElem_toArray, List.getElem_cons_zero, List.getElem_cons_succ, List.setIfInBounds_toArray, List.set_cons_zero, List.set_cons_succ]
        refine wpAnyH_take (i := 3) (oi := _) (v := ?_) rfl (by kernel_rfl) (by kernel_rfl) (by kernel_rfl) (fun _ _ _ h => h) (Or.inl ⟨by rfl, ?_⟩) (by assumption) ?_
        rotate_left
        · (intro w hSw; (try dsimp only at hSw); go_simp; try with_reducible rfl)
        try simp only [Act.put, List.getElem_toArray, List.getElem_cons_zero, List.getElem_cons_succ, List.setIfInBounds_toArray, List.set_cons_zero, List.set_cons_succ]
        refine wpAnyH_take (i := 5) (oi := _) (v := ?_) rfl (by kernel_rfl) (by kernel_rfl) (by kernel_rfl) (fun _ _ _ h => h) (Or.inl ⟨by rfl, ?_⟩) (by assumption) ?_
        rotate_left
        · (intro w hSw; (try dsimp only at hSw); go_simp; try with_reducible rfl)
        try simp only [Act.put, List.getElem_toArray, List.getElem_cons_zero, List.getElem_cons_succ, List.setIfInBounds_toArray, List.set_cons_zero, List.set_cons_succ]
        refine wpAnyH_take (i := 6) (oi := _) (v := ?_) rfl (by kernel_rfl) (by kernel_rfl) (by kernel_rfl) (fun _ _ _ h => h) (Or.inl ⟨by rfl, ?_⟩) (by assumption) ?_
        rotate_left
        · (intro w hSw; (try dsimp only at hSw); go_simp; try with_reducible rfl)
        try simp only [Act.put, List.getElem_toArray, List.getElem_cons_zero, List.getElem_cons_succ, List.setIfInBounds_toArray, List.set_cons_zero, List.set_cons_succ]
        refine wpAnyH_take (i := 7) (oi := _) (v := ?_) rfl (by kernel_rfl) (by kernel_rfl) (by kernel_rfl) (fun _ _ _ h => h) (Or.inl ⟨by rfl, ?_⟩) (by assumption) ?_
        rotate_left
        · (intro w hSw; (try dsimp only at hSw); go_simp; try with_reducible rfl)
        try simp only [Act.put, List.getElem_toArray, List.getElem_cons_zero, List.getElem_cons_succ, List.setIfInBounds_toArray, List.set_cons_zero, List.set_cons_succ]
        refine wpAnyH_take (i := 8) (oi := _) (v := ?_) rfl (by kernel_rfl) (by kernel_rfl) (by kernel_rfl) (fun _ _ _ h => h) (Or.inl ⟨by rfl, ?_⟩) (by assumption) ?_
        rotate_left
        · (intro w hSw; (try dsimp only at hSw); go_simp; try with_reducible rfl)
        try simp only [Act.put, List.getElem_toArray, List.getElem_cons_zero, List.getElem_cons_succ, List.setIfInBounds_toArray, List.set_cons_zero, List.set_cons_succ]
        refine wpAnyH_take (i := 9) (oi := _) (v := ?_) rfl (by kernel_rfl) (by kernel_rfl) (by kernel_rfl) (fun _ _ _ h => h) (Or.inl ⟨by rfl, ?_⟩) (by assumption) ?_
        rotate_left
        · (intro w hSw; (try dsimp only at hSw); go_simp; try with_reducible rfl)
        try simp only [Act.put, List.getElem_toArray, List.getElem_cons_zero, List.getElem_cons_succ, List.setIfInBounds_toArray, List.set_cons_zero, List.set_cons_succ]
        refine wpAnyH_take (i := 10) (oi := _) (v := ?_) rfl (by kernel_rfl) (by kernel_rfl) (by kernel_rfl) (fun _ _ _ h => h) (Or.inl ⟨by rfl, ?_⟩) (by assumption) ?_
        rotate_left
        · (intro w hSw; (try dsimp only at hSw); go_simp; try with_reducible rfl)
        try simp only [Act.put, List.getElem_toArray, List.getElem_cons_zero, List.getElem_cons_succ, List.setIfInBounds_toArray, List.set_cons_zero, List.set_cons_succ]
        refine wpAnyH_ready (rs := [4, 11]) (by kernel_rfl) (by simp) ?_
        refine (AllReadyH.cons (o := _) rfl (fun K hK => ?_) (AllReadyH.cons (o := _) rfl (fun K hK => ?_) AllReadyH.nil))
        · skip
          have hcQ : W.cell? ⟨p, 0, none⟩ = some (.slice A h.ms.length c) := Blk.cell (hs.at 4 rfl) 0
          go_simp
          try clear hHeld
          refine hK.out _ _ (by (try dsimp only); first | exact joKeepR (hs.at 0 rfl) (hs.at 4 rfl) | exact joKeepR ((hs.grow _).at 0 rfl) ((hs.grow _).at 4 rfl)) (fun hHeld => ?_)
          clear hK K
          try simp only [Act.put, List.getElem_toArray, List.getElem_cons_zero, List.getElem_cons_succ, List.setIfInBounds_toArray, List.set_cons_zero, List.set_cons_succ]
          clear hcQ
          refine wpAnyH_ready (rs := [11]) (by kernel_rfl) (by simp) ?_
          refine (AllReadyH.cons (o := _) rfl (fun K hK => ?_) AllReadyH.nil)
          have hsr := hs.litSrcV (P := Try.prog) (t := 68) (e := 90) (cs := #[.int .i64 (h.lm + 1), .string room, .string user, .int .i64 til, .int .i64 rights]) (n := 1) (size := 5) rfl (by decide) Try.underlying68 (by simp [Value.oneCell'])
          go_simp
          try clear hHeld
          refine hK.out _ _ (by (try dsimp only); first | exact joKeepR (hs.at 0 rfl) (hs.at 4 rfl) | exact joKeepR ((hs.grow _).at 0 rfl) ((hs.grow _).at 4 rfl)) (fun hHeld => ?_)
          clear hK K
          try simp only [Act.put, List.getElem_toArray, List.getElem_cons_zero, List.getElem_cons_succ, List.setIfInBounds_toArray, List.set_cons_zero, List.set_cons_succ]
          generalize hw : World.alloc W _ = W at hHeld hsr ⊢
          replace hs := hs.growTo hw
          clear hw
          refine wpAnyH_ready (rs := [12]) (by kernel_rfl) (by simp) ?_
          refine (AllReadyH.cons (o := _) rfl (fun K hK => ?_) AllReadyH.nil)
          replace hs := hs.swap1
          refine step_append_src _ (by rfl) _ _ 68 68 (by rfl) 0 90 i5 (.agg #[.int .i64 0, .string ⟨#[]⟩, .string ⟨#[]⟩, .int .i64 0, .int .i64 0]) 5 56 Try.underlying68 hi hz0 hz1 hz2 rfl _ h.ms.length (flat memC h.ms) (by rfl) hs.head _ 1 _ (by rfl) hsr (by unfold maxLen; omega) (by omega) (Nat.zero_le _) ?_
          intro v' W hown' hgrow hat
          have hown2 : W.ownsRow 0 90 5 v' (h.ms.length + 1) (flat memC (h.ms ++ [Mem.mk (h.lm + 1) room user til rights])) := by simpa [flat_append, flat] using hown'
          obtain ⟨A10, c10, rfl⟩ := own_form hown2
          replace hs := (hs.grown hgrow hown2 hat).swap1
          clear hown' hown2 hgrow hat hsr
          try clear hHeld
          refine hK.out _ _ (by (try dsimp only); first | exact joKeepR (hs.at 0 rfl) (hs.at 4 rfl) | exact joKeepR ((hs.grow _).at 0 rfl) ((hs.grow _).at 4 rfl)) (fun hHeld => ?_)
          clear hK K
          try simp only [Act.put, List.getElem_toArray, List.getElem_cons_zero, List.getElem_cons_succ, List.setIfInBounds_toArray, List.set_cons_zero, List.set_cons_succ]
          refine wpAnyH_take (i := 13) (oi := _) (v := ?_) rfl (by kernel_rfl) (by kernel_rfl) (by kernel_rfl) (fun _ _ _ h => h) (Or.inl ⟨by rfl, ?_⟩) (by assumption) ?_
          rotate_left
          · (intro w hSw; (try dsimp only at hSw); go_simp; try with_reducible rfl)
          try simp only [Act.put, List.getElem_toArray, List.getElem_cons_zero, List.getElem_cons_succ, List.setIfInBounds_toArray, List.set_cons_zero, List.set_cons_succ]
          refine wpAnyH_take (i := 14) (oi := _) (v := ?_) rfl (by kernel_rfl) (by kernel_rfl) (by kernel_rfl) (fun _ _ _ h => h) (Or.inl ⟨by rfl, ?_⟩) (by assumption) ?_
          rotate_left
          · (intro w hSw; (try dsimp only at hSw); go_simp; try with_reducible rfl)
          try simp only [Act.put, List.getElem_toArray, List.getElem_cons_zero, List.getElem_cons_succ, List.setIfInBounds_toArray, List.set_cons_zero, List.set_cons_succ]
          refine wpAnyH_ready (rs := [15]) (by kernel_rfl) (by simp) ?_
          refine (AllReadyH.cons (o := _) rfl (fun K hK => ?_) AllReadyH.nil)
          obtain ⟨hcQ, hfQ, hlQ⟩ := Blk.all (show Blk W p 71 _ from hs.at 4 rfl)
          go_simp
          replace hs := hs.set4 0 (.slice A10 (h.ms.length + 1) c10)
          try clear hHeld
          refine hK.out _ _ (by (try dsimp only); first | exact joKeepR (hs.at 0 rfl) (hs.at 4 rfl) | exact joKeepR ((hs.grow _).at 0 rfl) ((hs.grow _).at 4 rfl)) (fun hHeld => ?_)
          clear hK K
          try simp only [Act.put, List.getElem_toArray, List.getElem_cons_zero, List.getElem_cons_succ, List.setIfInBounds_toArray, List.set_cons_zero, List.set_cons_succ]
          clear hcQ hfQ hlQ
          refine wpAnyH_done (by kernel_rfl) ?_ _
          generalize World.setCell _ _ _ = W at hs ⊢
          have HE4 := Lib.hid (show (h.ms ++ [Mem.mk (h.lm + 1) room user til rights]).length = h.ms.length + 1 by simp)
          have hs' : St I (bk w.heap.size 30 #[.string room, .string user, .int .i64 til, .int .i64 rights] :: houR p { h with ms := h.ms ++ [⟨h.lm + 1, room, user, til, rights⟩], lm := h.lm + 1 } (.slice A10 (h.ms.length + 1) c10) vT vS M) W := by (unfold houR; dsimp only; rw [HE4.out]; exact hs)
          have HS := Lib.hid hs'
          have hcl : W.cell? ⟨p, 3, none⟩ = some (.int .i64 (h.lm + 1)) := Blk.cell (hs'.at 4 rfl) 3
          clear hs hs'
          go_wp2
          go_returns
          refine Ret.mk (.refl I) HS.out.drop ⟨rfl, ?_⟩
          rw [HE3.out]
          exact ⟨rfl, _, rfl⟩
        · skip
          have hsr := hs.litSrcV (P := Try.prog) (t := 68) (e := 90) (cs := #[.int .i64 (h.lm + 1), .string room, .string user, .int .i64 til, .int .i64 rights]) (n := 1) (size := 5) rfl (by decide) Try.underlying68 (by simp [Value.oneCell'])
          go_simp
          try clear hHeld
          refine hK.out _ _ (by (try dsimp only); first | exact joKeepR (hs.at 0 rfl) (hs.at 4 rfl) | exact joKeepR ((hs.grow _).at 0 rfl) ((hs.grow _).at 4 rfl)) (fun hHeld => ?_)
          clear hK K
          try simp only [Act.put, List.getElem_toArray, List.getElem_cons_zero, List.getElem_cons_succ, List.setIfInBounds_toArray, List.set_cons_zero, List.set_cons_succ]
          generalize hw : World.alloc W _ = W at hHeld hsr ⊢
          replace hs := hs.growTo hw
          clear hw
          refine wpAnyH_ready (rs := [4]) (by kernel_rfl) (by simp) ?_
          refine (AllReadyH.cons (o := _) rfl (fun K hK => ?_) AllReadyH.nil)
          have hcQ : W.cell? ⟨p, 0, none⟩ = some (.slice A h.ms.length c) := Blk.cell (hs.at 4 rfl) 0
          go_simp
          try clear hHeld
          refine hK.out _ _ (by (try dsimp only); first | exact joKeepR (hs.at 0 rfl) (hs.at 4 rfl) | exact joKeepR ((hs.grow _).at 0 rfl) ((hs.grow _).at 4 rfl)) (fun hHeld => ?_)
          clear hK K
          try simp only [Act.put, List.getElem_toArray, List.getElem_cons_zero, List.getElem_cons_succ, List.setIfInBounds_toArray, List.set_cons_zero, List.set_cons_succ]
          clear hcQ
          refine wpAnyH_ready (rs := [12]) (by kernel_rfl) (by simp) ?_
          refine (AllReadyH.cons (o := _) rfl (fun K hK => ?_) AllReadyH.nil)
          replace hs := hs.swap1
          refine step_append_src _ (by rfl) _ _ 68 68 (by rfl) 0 90 i5 (.agg #[.int .i64 0, .string ⟨#[]⟩, .string ⟨#[]⟩, .int .i64 0, .int .i64 0]) 5 56 Try.underlying68 hi hz0 hz1 hz2 rfl _ h.ms.length (flat memC h.ms) (by rfl) hs.head _ 1 _ (by rfl) hsr (by unfold maxLen; omega) (by omega) (Nat.zero_le _) ?_
          intro v' W hown' hgrow hat
          have hown2 : W.ownsRow 0 90 5 v' (h.ms.length + 1) (flat memC (h.ms ++ [Mem.mk (h.lm + 1) room user til rights])) := by simpa [flat_append, flat] using hown'
          obtain ⟨A10, c10, rfl⟩ := own_form hown2
          replace hs := (hs.grown hgrow hown2 hat).swap1
          clear hown' hown2 hgrow hat hsr
          try clear hHeld
          refine hK.out _ _ (by (try dsimp only); first | exact joKeepR (hs.at 0 rfl) (hs.at 4 rfl) | exact joKeepR ((hs.grow _).at 0 rfl) ((hs.grow _).at 4 rfl)) (fun hHeld => ?_)
          clear hK K
          try simp only [Act.put, List.getElem_toArray, List.getElem_cons_zero, List.getElem_cons_succ, List.setIfInBounds_toArray, List.set_cons_zero, List.set_cons_succ]
          refine wpAnyH_take (i := 13) (oi := _) (v := ?_) rfl (by kernel_rfl) (by kernel_rfl) (by kernel_rfl) (fun _ _ _ h => h) (Or.inl ⟨by rfl, ?_⟩) (by assumption) ?_
          rotate_left
          · (intro w hSw; (try dsimp only at hSw); go_simp; try with_reducible rfl)
          try simp only [Act.put, List.getElem_toArray, List.getElem_cons_zero, List.getElem_cons_succ, List.setIfInBounds_toArray, List.set_cons_zero, List.set_cons_succ]
          refine wpAnyH_take (i := 14) (oi := _) (v := ?_) rfl (by kernel_rfl) (by kernel_rfl) (by kernel_rfl) (fun _ _ _ h => h) (Or.inl ⟨by rfl, ?_⟩) (by assumption) ?_
          rotate_left
          · (intro w hSw; (try dsimp only at hSw); go_simp; try with_reducible rfl)
          try simp only [Act.put, List.getElem_toArray, List.getElem_cons_zero, List.getElem_cons_succ, List.setIfInBounds_toArray, List.set_cons_zero, List.set_cons_succ]
          refine wpAnyH_ready (rs := [15]) (by kernel_rfl) (by simp) ?_
          refine (AllReadyH.cons (o := _) rfl (fun K hK => ?_) AllReadyH.nil)
          obtain ⟨hcQ, hfQ, hlQ⟩ := Blk.all (show Blk W p 71 _ from hs.at 4 rfl)
          go_simp
          replace hs := hs.set4 0 (.slice A10 (h.ms.length + 1) c10)
          try clear hHeld
          refine hK.out _ _ (by (try dsimp only); first | exact joKeepR (hs.at 0 rfl) (hs.at 4 rfl) | exact joKeepR ((hs.grow _).at 0 rfl) ((hs.grow _).at 4 rfl)) (fun hHeld => ?_)
          clear hK K
          try simp only [Act.put, List.getElem_toArray, List.getElem_cons_zero, List.getElem_cons_succ, List.setIfInBounds_toArray, List.set_cons_zero, List.set_cons_succ]
          clear hcQ hfQ hlQ
          refine wpAnyH_done (by kernel_rfl) ?_ _
          generalize World.setCell _ _ _ = W at hs ⊢
          have HE4 := Lib.hid (show (h.ms ++ [Mem.mk (h.lm + 1) room user til rights]).length = h.ms.length + 1 by simp)
          have hs' : St I (bk w.heap.size 30 #[.string room, .string user, .int .i64 til, .int .i64 rights] :: houR p { h with ms := h.ms ++ [⟨h.lm + 1, room, user, til, rights⟩], lm := h.lm + 1 } (.slice A10 (h.ms.length + 1) c10) vT vS M) W := by (unfold houR; dsimp only; rw [HE4.out]; exact hs)
          have HS := Lib.hid hs'
          have hcl : W.cell? ⟨p, 3, none⟩ = some (.int .i64 (h.lm + 1)) := Blk.cell (hs'.at 4 rfl) 3
          clear hs hs'
          go_wp2
          go_returns
          refine Ret.mk (.refl I) HS.out.drop ⟨rfl, ?_⟩
          rw [HE3.out]
          exact ⟨rfl, _, rfl⟩
end Go.Proofs.Ytbaobonlolbnpaa
