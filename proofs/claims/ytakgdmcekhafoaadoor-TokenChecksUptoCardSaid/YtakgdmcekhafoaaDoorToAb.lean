/- TokenChecks, TokenTurned: the laws. -/
import Derived.Test.YtakgdmcekhafoaaDoorToAa
import Derived.Test.YtakgdmcekhafoaaDoorToN
namespace Go.Proofs.YtakgdmcekhafoaaDoor
open Go.RowKit
set_option linter.unusedSimpArgs false

set_option maxRecDepth 8000 in
set_option maxHeartbeats 4000000 in
theorem law5 (I : Img) (M : List Res) (w : World) (KA : Option Addr) (kc : Nat) (kb : List UInt8) (S : ByteArray) (now mx : Int) (hst : St I M w) (hk : Byts I KA kb) (hkl : kb.length ≤ 140737488351232) (ht : Tab10 I) (hm3 : I.cell? ⟨3, 0, none⟩ = some (.int .i64 mx))
    (he0 : ErrV I 0) (he1 : ErrV I 1) (hz : S.size ≤ 4000000) :
    Calls Tryd.prog 5 #[.slice KA kb.length kc, .string S, .int .i64 now] w (Ret I (fun v _ _ => v = .bool true)) := by
  have HC := Lib.hid (awakeP I _ w hst ht)
  have HKK := Lib.hid (And.intro hk hkl)
  have HM3 := Lib.hid hm3
  have HT := Lib.hid ht
  have HEV := Lib.hid (And.intro he0 he1)
  have HZ := Lib.hid hz
  clear hst hk hkl hm3 ht he0 he1 hz
  go_enter Tryd.func5, Tryd.ntmps5
  go_wp2_with fail
  go_at_call 8
  refine HC.out.mono ?_
  rintro e w1 ⟨_, J1, M1, rfl, hl1, hs, rfl, hM1⟩
  subst hM1
  clear HC
  have HL1 := Lib.hid hl1
  have HC := Lib.hid (checkRf J1 _ w1 KA kc kb S now hs (HKK.out.1.mono HL1.out) HKK.out.2 (by unfold maxLen; have := HZ.out; omega))
  clear hs hl1
  go_wp2_with fail
  go_at_call 12
  refine HC.out.mono ?_
  rintro e w2 ⟨_, J2, M2, rfl, hl2, hs, hM2, hv⟩
  subst hM2 hv
  clear HC
  obtain ⟨c, hc⟩ : ∃ c, c = (checkR kb (ls S) now).1 := ⟨_, rfl⟩
  obtain ⟨n, hn⟩ : ∃ n, n = (checkR kb (ls S) now).2 := ⟨_, rfl⟩
  rw [← hc, ← hn]
  have HCN := Lib.hid (And.intro hc hn)
  have HL2 := Lib.hid (HL1.out.trans hl2)
  have hs2 := hs.alloc 24 (clC c)
  clear hs hl2 hc hn
  simp only [clC] at hs2 ⊢
  go_upto_region 4 with fail
  generalize World.alloc w2 _ = W3 at hs2 ⊢
  generalize w2.heap.size = b1 at hs2 ⊢
  have HC : Hid (Calls Tryd.prog 13 #[.slice KA kb.length kc, .string S, .int .i64 now] W3 (Ret J2 (fun v _ M' => M' = bk b1 24 #[.string c.room, .string c.user, .int .i64 c.til, .int .i64 c.rights] :: M2 ∧ v = .tuple #[.agg (clC c), .int .i64 n]))) := Lib.hid (by
    have h := checkG J2 _ W3 KA kc kb S now mx hs2 (HKK.out.1.mono HL2.out) HKK.out.2 (HT.out.mono HL2.out) (HL2.out.cell HM3.out) (HEV.out.1.mono HL2.out) (HEV.out.2.mono HL2.out) HZ.out
    rw [← HCN.out.1, ← HCN.out.2] at h
    exact h)
  clear hs2
  go_wp2_with fail
  go_at_call 13
  refine HC.out.mono ?_
  rintro e w4 ⟨_, J3, M4, rfl, hl3, hs, hM4, hv⟩
  subst hM4 hv
  clear HC HCN
  have HL3 := Lib.hid (HL2.out.trans hl3)
  have hs2 := hs.alloc 30 (clC c)
  clear hs hl3
  simp only [clC] at hs2 ⊢
  go_upto_region 5 with fail
  generalize World.alloc w4 _ = W5 at hs2 ⊢
  generalize w4.heap.size = q at hs2 ⊢
  replace hs2 := hs2.drew
  have hq := eqS c
  have hnn : (n == n) = true := by simp
  refine wp_region_held_drew (S := (fun w' => (w'.cell? ⟨q, 0, none⟩ = some (.string c.room) ∧ w'.cell? ⟨q, 1, none⟩ = some (.string c.user) ∧ w'.cell? ⟨q, 2, none⟩ = some (.int .i64 c.til) ∧ w'.cell? ⟨q, 3, none⟩ = some (.int .i64 c.rights)) ∧ (w'.cell? ⟨b1, 0, none⟩ = some (.string c.room) ∧ w'.cell? ⟨b1, 1, none⟩ = some (.string c.user) ∧ w'.cell? ⟨b1, 2, none⟩ = some (.int .i64 c.til) ∧ w'.cell? ⟨b1, 3, none⟩ = some (.int .i64 c.rights)))) (by kernel_rfl) (by (try dsimp only); exact ⟨clK (show Blk _ q 30 (clC c) from hs2.head), clK (show Blk _ b1 24 (clC c) from hs2.at 1 rfl)⟩) (fun hHeld => ?_)
  generalize World.drew _ = W6 at hs2 hHeld ⊢
  refine wpAnyH_take (i := 0) (oi := _) (v := ?_) rfl (by kernel_rfl) (by kernel_rfl) (by kernel_rfl) (fun _ _ _ h => h) (Or.inl ⟨by rfl, ?_⟩) (by assumption) ?_
  rotate_left
  · (intro w hSw; (try dsimp only at hSw); go_simp; try with_reducible rfl)
  try simp only [Act.put, List.getElem_toArray, List.getElem_cons_zero, List.getElem_cons_succ, List.setIfInBounds_toArray, List.set_cons_zero, List.set_cons_succ]
  refine wpAnyH_take (i := 1) (oi := _) (v := ?_) rfl (by kernel_rfl) (by kernel_rfl) (by kernel_rfl) (fun _ _ _ h => h) (Or.inl ⟨by rfl, ?_⟩) (by assumption) ?_
  rotate_left
  · (intro w hSw; (try dsimp only at hSw); go_simp; try with_reducible rfl)
  try simp only [Act.put, List.getElem_toArray, List.getElem_cons_zero, List.getElem_cons_succ, List.setIfInBounds_toArray, List.set_cons_zero, List.set_cons_succ]
  refine wpAnyH_take (i := 2) (oi := _) (v := ?_) rfl (by kernel_rfl) (by kernel_rfl) (by kernel_rfl) (fun _ _ _ h => h) (Or.inl ⟨by rfl, ?_⟩) (by assumption) ?_
  rotate_left
  · (intro w hSw; (try dsimp only at hSw); go_simp; try with_reducible rfl)
  try simp only [Act.put, List.getElem_toArray, List.getElem_cons_zero, List.getElem_cons_succ, List.setIfInBounds_toArray, List.set_cons_zero, List.set_cons_succ]
  refine wpAnyH_take (i := 3) (oi := _) (v := ?_) rfl (by kernel_rfl) (by kernel_rfl) (by kernel_rfl) (fun _ _ _ h => h) (Or.inl ⟨by rfl, ?_⟩) (by assumption) ?_
  rotate_left
  · (intro w hSw; (try dsimp only at hSw); go_simp; try with_reducible rfl)
  try simp only [Act.put, List.getElem_toArray, List.getElem_cons_zero, List.getElem_cons_succ, List.setIfInBounds_toArray, List.set_cons_zero, List.set_cons_succ]
  refine wpAnyH_take (i := 4) (oi := _) (v := ?_) rfl (by kernel_rfl) (by kernel_rfl) (by kernel_rfl) (fun _ _ _ h => h) (Or.inl ⟨by rfl, ?_⟩) (by assumption) ?_
  rotate_left
  · (intro w hSw; (try dsimp only at hSw); go_simp; try with_reducible rfl)
  try simp only [Act.put, List.getElem_toArray, List.getElem_cons_zero, List.getElem_cons_succ, List.setIfInBounds_toArray, List.set_cons_zero, List.set_cons_succ]
  refine wpAnyH_take (i := 5) (oi := _) (v := ?_) rfl (by kernel_rfl) (by kernel_rfl) (by kernel_rfl) (fun _ _ _ h => h) (Or.inl ⟨by rfl, ?_⟩) (by assumption) ?_
  rotate_left
  · (intro w hSw; (try dsimp only at hSw); go_simp; try with_reducible rfl)
  try simp only [Act.put, List.getElem_toArray, List.getElem_cons_zero, List.getElem_cons_succ, List.setIfInBounds_toArray, List.set_cons_zero, List.set_cons_succ]
  refine wpAnyH_ready (rs := [6]) (by kernel_rfl) (by simp) ?_
  refine (AllReadyH.cons (o := _) rfl (fun K hK => ?_) AllReadyH.nil)
  have hc := claimsP J3 _ W6 c hs2
  have hc : Calls Tryd.prog 11 #[.agg #[.string c.room, .string c.user, .int .i64 c.til, .int .i64 c.rights]] W6 _ := hc
  go_simp
  refine hc.mono ?_
  clear hs2 hc
  rintro e w7 ⟨_, _, _, rfl, _, hs2, rfl, rfl, rfl⟩
  simp only [clC]
  try clear hHeld
  refine hK.out _ _ (by (try dsimp only); exact ⟨clK (show Blk _ q 30 (clC c) from hs2.head), clK (show Blk _ b1 24 (clC c) from hs2.at 1 rfl)⟩) (fun hHeld => ?_)
  clear hK K
  try simp only [Act.put, List.getElem_toArray, List.getElem_cons_zero, List.getElem_cons_succ, List.setIfInBounds_toArray, List.set_cons_zero, List.set_cons_succ]
  refine wpAnyH_take (i := 7) (oi := _) (v := ?_) rfl (by kernel_rfl) (by kernel_rfl) (by kernel_rfl) (fun _ _ _ h => h) (Or.inl ⟨by rfl, ?_⟩) (by assumption) ?_
  rotate_left
  · (intro w hSw; (try dsimp only at hSw); go_simp; try with_reducible rfl)
  try simp only [Act.put, List.getElem_toArray, List.getElem_cons_zero, List.getElem_cons_succ, List.setIfInBounds_toArray, List.set_cons_zero, List.set_cons_succ]
  refine wpAnyH_take (i := 8) (oi := _) (v := ?_) rfl (by kernel_rfl) (by kernel_rfl) (by kernel_rfl) (fun _ _ _ h => h) (Or.inl ⟨by rfl, ?_⟩) (by assumption) ?_
  rotate_left
  · (intro w hSw; (try dsimp only at hSw); go_simp; try with_reducible rfl)
  try simp only [Act.put, List.getElem_toArray, List.getElem_cons_zero, List.getElem_cons_succ, List.setIfInBounds_toArray, List.set_cons_zero, List.set_cons_succ]
  refine wpAnyH_take (i := 9) (oi := _) (v := ?_) rfl (by kernel_rfl) (by kernel_rfl) (by kernel_rfl) (fun _ _ _ h => h) (Or.inl ⟨by rfl, ?_⟩) (by assumption) ?_
  rotate_left
  · (intro w hSw; (try dsimp only at hSw); go_simp; try with_reducible rfl)
  try simp only [Act.put, List.getElem_toArray, List.getElem_cons_zero, List.getElem_cons_succ, List.setIfInBounds_toArray, List.set_cons_zero, List.set_cons_succ]
  refine wpAnyH_done (by kernel_rfl) ?_ _
  have HS := Lib.hid hs2
  clear hs2 hHeld
  go_wp2
  go_ret
  exact Ret.mk HL3.out HS.out rfl
set_option maxRecDepth 8000 in
set_option maxHeartbeats 4000000 in
theorem judgedP (I : Img) (M : List Res) (w : World) (KA : Option Addr) (kc : Nat) (kb : List UInt8) (S : ByteArray) (now mx : Int) (hst : St I M w) (hk : Byts I KA kb) (hkl : kb.length ≤ 140737488351232) (ht : Tab10 I) (hm3 : I.cell? ⟨3, 0, none⟩ = some (.int .i64 mx))
    (he0 : ErrV I 0) (he1 : ErrV I 1) (hz : S.size ≤ 4000000) :
    Calls Tryd.prog 14 #[.slice KA kb.length kc, .string S, .int .i64 now] w (Ret I (fun v _ M' => v = .bool true ∧ M' = M)) := by
  obtain ⟨i0, hi, hz0, hz1, hz2⟩ : ∃ i, Tryd.prog.info? 5 = some i ∧ i.zero = some (.int .u8 0) ∧ i.size = 1 ∧ i.bytes = 1 := by
    obtain ⟨i, h1, h2⟩ := Option.map_eq_some_iff.1 (show (Tryd.prog.info? 5).map (fun i => (i.zero, i.size, i.bytes)) = some (some (.int .u8 0), 1, 1) by kernel_rfl)
    simp only [Prod.mk.injEq] at h2
    exact ⟨i, h1, h2.1, h2.2.1, h2.2.2⟩
  have HC := Lib.hid (checkRf I _ w KA kc kb S now hst hk hkl (by unfold maxLen; omega))
  have HKK := Lib.hid (And.intro hk hkl)
  have HM3 := Lib.hid hm3
  have HT := Lib.hid ht
  have HEV := Lib.hid (And.intro he0 he1)
  have HZ := Lib.hid hz
  clear hst hk hm3 ht he0 he1 hz
  go_enter Tryd.func14, Tryd.ntmps14
  go_wp2_with fail
  go_at_call 12
  refine HC.out.mono ?_
  rintro e w2 ⟨_, J2, M2, rfl, hl2, hs, hM2, hv⟩
  subst hM2 hv
  clear HC
  obtain ⟨c, hc⟩ : ∃ c, c = (checkR kb (ls S) now).1 := ⟨_, rfl⟩
  obtain ⟨n, hn⟩ : ∃ n, n = (checkR kb (ls S) now).2 := ⟨_, rfl⟩
  rw [← hc, ← hn]
  have HCN := Lib.hid (And.intro hc hn)
  have HL2 := Lib.hid hl2
  have hs2 := hs.alloc 24 (clC c)
  clear hs hl2 hc hn
  simp only [clC] at hs2 ⊢
  go_upto_region 2 with fail
  generalize World.alloc w2 _ = W3 at hs2 ⊢
  generalize w2.heap.size = b1 at hs2 ⊢
  have HB2 := Lib.hid (HKK.out.1.mono HL2.out)
  have HS0 := Lib.hid hs2
  have Hs := Lib.hid (HB2.out.src (hs2.grow (.cells #[] 5)) Tryd.underlying22 kc)
  have Ho := Lib.hid (hs2.lit0 (e := 5))
  clear hs2
  go_wp2_with (at_builtin; refine wpList_append_src _ rfl _ _ 22 22 rfl W3.heap.size 5 i0 (.int .u8 0) 1 1 Tryd.underlying22 hi hz0 hz1 hz2 rfl _ _ _ rfl Ho.out _ _ _ rfl Hs.out (by unfold maxLen; omega) (by omega) (by simp) ?_)
  intro v3 w3 hown' hgrow _
  have hB := ((Below.refl W3.heap.size W3).alloc (Nat.le_refl _) (.cells #[] 5)).grown hgrow (by simp) (fun k hk => by simp [Value.ownBlock] at hk; omega)
  have hown2 : w3.ownsRow W3.heap.size 5 1 v3 kb.length (bvs kb) := by simpa using hown'
  have Hst3 := Lib.hid (St.fresh HS0.out (HS0.out.below hB) hown2)
  clear hown' hown2 hgrow hB Hs Ho HS0
  obtain ⟨A3, c3, rfl⟩ := own_form Hst3.out.head
  obtain ⟨J3, hl3, hs3, hb3⟩ := Hst3.out.freezeRow
  have HL3 := Lib.hid (HL2.out.trans hl3)
  have HC : Hid (Calls Tryd.prog 13 #[.slice A3 kb.length c3, .string S, .int .i64 now] w3 (Ret J3 (fun v _ M' => M' = bk b1 24 #[.string c.room, .string c.user, .int .i64 c.til, .int .i64 c.rights] :: M2 ∧ v = .tuple #[.agg (clC c), .int .i64 n]))) := Lib.hid (by
    have h := checkG J3 _ w3 A3 c3 kb S now mx hs3 hb3 HKK.out.2 (HT.out.mono HL3.out) (HL3.out.cell HM3.out) (HEV.out.1.mono HL3.out) (HEV.out.2.mono HL3.out) HZ.out
    rw [← HCN.out.1, ← HCN.out.2] at h
    exact h)
  clear hs3 hb3 hl3 Hst3
  go_wp2_with fail
  go_at_call 13
  refine HC.out.mono ?_
  rintro e w4 ⟨_, J4, M4, rfl, hl4, hs, hM4, hv⟩
  subst hM4 hv
  clear HC HCN
  have HL4 := Lib.hid (HL3.out.trans hl4)
  have hs2 := hs.alloc 30 (clC c)
  clear hs hl4
  simp only [clC] at hs2 ⊢
  go_upto_region 3 with fail
  generalize World.alloc w4 _ = W5 at hs2 ⊢
  generalize w4.heap.size = q at hs2 ⊢
  replace hs2 := hs2.drew
  have hq := eqS c
  have hnn : (n == n) = true := by simp
  refine wp_region_held_drew (S := (fun w' => (w'.cell? ⟨q, 0, none⟩ = some (.string c.room) ∧ w'.cell? ⟨q, 1, none⟩ = some (.string c.user) ∧ w'.cell? ⟨q, 2, none⟩ = some (.int .i64 c.til) ∧ w'.cell? ⟨q, 3, none⟩ = some (.int .i64 c.rights)) ∧ (w'.cell? ⟨b1, 0, none⟩ = some (.string c.room) ∧ w'.cell? ⟨b1, 1, none⟩ = some (.string c.user) ∧ w'.cell? ⟨b1, 2, none⟩ = some (.int .i64 c.til) ∧ w'.cell? ⟨b1, 3, none⟩ = some (.int .i64 c.rights)))) (by kernel_rfl) (by (try dsimp only); exact ⟨clK (show Blk _ q 30 (clC c) from hs2.head), clK (show Blk _ b1 24 (clC c) from hs2.at 1 rfl)⟩) (fun hHeld => ?_)
  generalize World.drew _ = W6 at hs2 hHeld ⊢
  refine wpAnyH_take (i := 0) (oi := _) (v := ?_) rfl (by kernel_rfl) (by kernel_rfl) (by kernel_rfl) (fun _ _ _ h => h) (Or.inl ⟨by rfl, ?_⟩) (by assumption) ?_
  rotate_left
  · (intro w hSw; (try dsimp only at hSw); go_simp; try with_reducible rfl)
  try simp only [Act.put, List.getElem_toArray, List.getElem_cons_zero, List.getElem_cons_succ, List.setIfInBounds_toArray, List.set_cons_zero, List.set_cons_succ]
  refine wpAnyH_take (i := 1) (oi := _) (v := ?_) rfl (by kernel_rfl) (by kernel_rfl) (by kernel_rfl) (fun _ _ _ h => h) (Or.inl ⟨by rfl, ?_⟩) (by assumption) ?_
  rotate_left
  · (intro w hSw; (try dsimp only at hSw); go_simp; try with_reducible rfl)
  try simp only [Act.put, List.getElem_toArray, List.getElem_cons_zero, List.getElem_cons_succ, List.setIfInBounds_toArray, List.set_cons_zero, List.set_cons_succ]
  refine wpAnyH_take (i := 2) (oi := _) (v := ?_) rfl (by kernel_rfl) (by kernel_rfl) (by kernel_rfl) (fun _ _ _ h => h) (Or.inl ⟨by rfl, ?_⟩) (by assumption) ?_
  rotate_left
  · (intro w hSw; (try dsimp only at hSw); go_simp; try with_reducible rfl)
  try simp only [Act.put, List.getElem_toArray, List.getElem_cons_zero, List.getElem_cons_succ, List.setIfInBounds_toArray, List.set_cons_zero, List.set_cons_succ]
  refine wpAnyH_take (i := 3) (oi := _) (v := ?_) rfl (by kernel_rfl) (by kernel_rfl) (by kernel_rfl) (fun _ _ _ h => h) (Or.inl ⟨by rfl, ?_⟩) (by assumption) ?_
  rotate_left
  · (intro w hSw; (try dsimp only at hSw); go_simp; try with_reducible rfl)
  try simp only [Act.put, List.getElem_toArray, List.getElem_cons_zero, List.getElem_cons_succ, List.setIfInBounds_toArray, List.set_cons_zero, List.set_cons_succ]
  refine wpAnyH_take (i := 4) (oi := _) (v := ?_) rfl (by kernel_rfl) (by kernel_rfl) (by kernel_rfl) (fun _ _ _ h => h) (Or.inl ⟨by rfl, ?_⟩) (by assumption) ?_
  rotate_left
  · (intro w hSw; (try dsimp only at hSw); go_simp; try with_reducible rfl)
  try simp only [Act.put, List.getElem_toArray, List.getElem_cons_zero, List.getElem_cons_succ, List.setIfInBounds_toArray, List.set_cons_zero, List.set_cons_succ]
  refine wpAnyH_take (i := 5) (oi := _) (v := ?_) rfl (by kernel_rfl) (by kernel_rfl) (by kernel_rfl) (fun _ _ _ h => h) (Or.inl ⟨by rfl, ?_⟩) (by assumption) ?_
  rotate_left
  · (intro w hSw; (try dsimp only at hSw); go_simp; try with_reducible rfl)
  try simp only [Act.put, List.getElem_toArray, List.getElem_cons_zero, List.getElem_cons_succ, List.setIfInBounds_toArray, List.set_cons_zero, List.set_cons_succ]
  refine wpAnyH_ready (rs := [6]) (by kernel_rfl) (by simp) ?_
  refine (AllReadyH.cons (o := _) rfl (fun K hK => ?_) AllReadyH.nil)
  have hc := claimsP J4 _ W6 c hs2
  have hc : Calls Tryd.prog 11 #[.agg #[.string c.room, .string c.user, .int .i64 c.til, .int .i64 c.rights]] W6 _ := hc
  go_simp
  refine hc.mono ?_
  clear hs2 hc
  rintro e w7 ⟨_, _, _, rfl, _, hs2, rfl, rfl, rfl⟩
  simp only [clC]
  try clear hHeld
  refine hK.out _ _ (by (try dsimp only); exact ⟨clK (show Blk _ q 30 (clC c) from hs2.head), clK (show Blk _ b1 24 (clC c) from hs2.at 1 rfl)⟩) (fun hHeld => ?_)
  clear hK K
  try simp only [Act.put, List.getElem_toArray, List.getElem_cons_zero, List.getElem_cons_succ, List.setIfInBounds_toArray, List.set_cons_zero, List.set_cons_succ]
  refine wpAnyH_take (i := 7) (oi := _) (v := ?_) rfl (by kernel_rfl) (by kernel_rfl) (by kernel_rfl) (fun _ _ _ h => h) (Or.inl ⟨by rfl, ?_⟩) (by assumption) ?_
  rotate_left
  · (intro w hSw; (try dsimp only at hSw); go_simp; try with_reducible rfl)
  try simp only [Act.put, List.getElem_toArray, List.getElem_cons_zero, List.getElem_cons_succ, List.setIfInBounds_toArray, List.set_cons_zero, List.set_cons_succ]
  refine wpAnyH_take (i := 8) (oi := _) (v := ?_) rfl (by kernel_rfl) (by kernel_rfl) (by kernel_rfl) (fun _ _ _ h => h) (Or.inl ⟨by rfl, ?_⟩) (by assumption) ?_
  rotate_left
  · (intro w hSw; (try dsimp only at hSw); go_simp; try with_reducible rfl)
  try simp only [Act.put, List.getElem_toArray, List.getElem_cons_zero, List.getElem_cons_succ, List.setIfInBounds_toArray, List.set_cons_zero, List.set_cons_succ]
  refine wpAnyH_take (i := 9) (oi := _) (v := ?_) rfl (by kernel_rfl) (by kernel_rfl) (by kernel_rfl) (fun _ _ _ h => h) (Or.inl ⟨by rfl, ?_⟩) (by assumption) ?_
  rotate_left
  · (intro w hSw; (try dsimp only at hSw); go_simp; try with_reducible rfl)
  try simp only [Act.put, List.getElem_toArray, List.getElem_cons_zero, List.getElem_cons_succ, List.setIfInBounds_toArray, List.set_cons_zero, List.set_cons_succ]
  refine wpAnyH_done (by kernel_rfl) ?_ _
  have HS := Lib.hid hs2
  clear hs2 hHeld
  go_wp2
  go_ret
  exact Ret.mk HL4.out HS.out.drop.drop ⟨rfl, rfl⟩
/-- an object's cell is written -/
theorem St.obSet {I : Img} {M : List Res} {w : World} {g t : Nat} {cs : Array Value} {x : Nat × Nat} (h : St I (ob g (.cells cs t x) :: M) w) (i : Nat) (u : Value) : St I (ob g (.cells (cs.setIfInBounds i u) t x) :: M) (w.setCell ⟨g, i, none⟩ u) := by
  refine h.turn rfl rfl rfl (fun k _ hne => Below.heap_setCell _ _ _ _ (fun e => hne (by rw [e]; rfl))) ?_ (fun _ hb => .inl hb)
  have h1 : w.heap[g]? = some (.cells cs t x) := h.head
  show (w.setCell ⟨g, i, none⟩ u).heap[g]? = _
  simp [World.setCell, Array.getElem?_modify, h1]
theorem St.allocOb {I : Img} {M : List Res} {w : World} (h : St I M w) (o : Obj) : St I (ob w.heap.size o :: M) (w.alloc o) :=
  St.more (w := w) (h.grow _) (heap_alloc_new w _) (fun b hb => by injection hb with hb; subst hb; simp) h
theorem St.freezeOb {I : Img} {M : List Res} {w : World} {g t : Nat} {cs : Array Value} {x : Nat × Nat} (h : St I (ob g (.cells cs t x) :: M) w) : ∃ J, I.le J ∧ St J M w ∧ J.obj g = some (.cells cs t x) := by
  obtain ⟨h2, h3⟩ := h.freeze (b := g) rfl
  refine ⟨_, h2, h3, ?_⟩
  show (if g = g then _ else _) = _
  rw [if_pos rfl]
  exact h.head
theorem Byts.ofOb {I : Img} {g t : Nat} {cs : Array Value} {x : Nat × Nat} {l : List UInt8} (h : I.obj g = some (.cells cs t x)) (hl : ∀ j (hj : j < l.length), cs[j]? = some (.int .u8 l[j].toNat)) : Byts I (some ⟨g, 0, none⟩) l := by
  intro _
  refine ⟨g, 0, rfl, fun j hj => ?_⟩
  rw [bvs_len] at hj
  simp only [Img.cell?, h, Nat.zero_add]
  show (if false = true then none else cs[j]?) = _
  rw [if_neg (by decide), hl j hj]
  simp [bvs, bv]
end Go.Proofs.YtakgdmcekhafoaaDoor
