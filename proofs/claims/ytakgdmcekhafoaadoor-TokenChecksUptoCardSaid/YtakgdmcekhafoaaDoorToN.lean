/- TokenBack: the law. -/
import Derived.Test.YtakgdmcekhafoaaDoorToK
import Derived.Test.YtakgdmcekhafoaaDoorToM
namespace Go.Proofs.YtakgdmcekhafoaaDoor
open Go.RowKit
set_option linter.unusedSimpArgs false

theorem eq30 (c d : Cl) (w : World) : (binOp .eql 30 (.agg (clC c)) (.agg (clC d))).run Tryd.prog w = .ok (.bool (eqCl c d)) w := by
  have h1 := run_equalIn_agg (P := Tryd.prog) w 9999 30 (clC c) (clC d) (by kernel_rfl) (by kernel_rfl)
  have hf : (Tryd.prog.fieldsOf 30).toList = [⟨"Room", 9, 0, false, "", "", 0⟩, ⟨"User", 9, 1, false, "", "", 16⟩, ⟨"Until", 2, 2, false, "", "", 32⟩, ⟨"Rights", 3, 3, false, "", "", 40⟩] := by kernel_rfl
  rw [hf] at h1
  rw [run_eql_struct, h1]
  have q1 : ∀ (a b : ByteArray) (w : World), (Op.equalIn 9999 9 (.string a) (.string b)).run Tryd.prog w = .ok (a.toList == b.toList) w := fun a b w => run_equalIn_string w 9998 9 a b Tryd.underlying9
  have q2 : ∀ (a b : Int) (w : World), (Op.equalIn 9999 2 (.int .i64 a) (.int .i64 b)).run Tryd.prog w = .ok (a == b) w := fun a b w => run_equalIn_int w 9998 2 .i64 .i64 a b Tryd.underlying2
  have q3 : ∀ (a b : Int) (w : World), (Op.equalIn 9999 3 (.int .i64 a) (.int .i64 b)).run Tryd.prog w = .ok (a == b) w := fun a b w => run_equalIn_int w 9998 3 .i64 .i64 a b Tryd.underlying3
  simp only [Op.eqFields, clC, part, isAgg, Sem.run_bind, Sem.run_ite, run_underlying Tryd.underlying9, run_underlying Tryd.underlying2, run_underlying Tryd.underlying3, Result.andThen_ok, q1, q2, q3, Sem.run_pure]
  unfold eqCl
  by_cases h1 : c.room.toList = d.room.toList <;> by_cases h2 : c.user.toList = d.user.toList <;> by_cases h3 : c.til = d.til <;> by_cases h4 : c.rights = d.rights <;> simp [h1, h2, h3, h4, q1, q2, q3, go_sem]
def clZ : Cl := ⟨⟨#[]⟩, ⟨#[]⟩, 0, 0⟩
theorem eqZ (w : World) : (binOp .eql 30 (.agg #[.string ⟨#[]⟩, .string ⟨#[]⟩, .int .i64 0, .int .i64 0]) (.agg #[.string ⟨#[]⟩, .string ⟨#[]⟩, .int .i64 0, .int .i64 0])).run Tryd.prog w = .ok (.bool true) w := by
  have h := eq30 clZ clZ w
  rw [eqCl_self] at h
  exact h
theorem eqS (c : Cl) (w : World) : (binOp .eql 30 (.agg #[.string c.room, .string c.user, .int .i64 c.til, .int .i64 c.rights]) (.agg #[.string c.room, .string c.user, .int .i64 c.til, .int .i64 c.rights])).run Tryd.prog w = .ok (.bool true) w := by
  have h := eq30 c c w
  rw [eqCl_self] at h
  exact h
set_option maxRecDepth 8000 in
set_option maxHeartbeats 4000000 in
theorem law7 (I : Img) (M : List Res) (w : World) (KA : Option Addr) (kc : Nat) (kb : List UInt8) (c : Cl) (now mx : Int) (hst : St I M w) (hk : Byts I KA kb) (hkl : kb.length ≤ 140737488351232) (ht : Tab10 I) (hm3 : I.cell? ⟨3, 0, none⟩ = some (.int .i64 mx)) (hc : ClSz c) :
    Calls Tryd.prog 7 #[.slice KA kb.length kc, .agg (clC c), .int .i64 now] w (Ret I (fun v _ _ => v = .bool true)) := by
  have hs := hst.alloc 24 (clC c)
  obtain ⟨b1, hb1⟩ : ∃ b, b = w.heap.size := ⟨_, rfl⟩
  rw [← hb1] at hs
  have HKK := Lib.hid (And.intro hk hkl)
  have HM3 := Lib.hid hm3
  have HT := Lib.hid ht
  have HZ := Lib.hid hc
  clear hst hk hkl hm3 ht hc
  go_enter Tryd.func7, Tryd.ntmps7
  go_upto_region 1 with fail
  rw [← hb1]
  clear hb1
  generalize World.alloc _ _ = W at hs ⊢
  have HC := Lib.hid (awakeP I _ W hs HT.out)
  clear hs
  go_wp2_with fail
  go_at_call 8
  refine HC.out.mono ?_
  rintro e w1 ⟨_, J1, M1, rfl, hl1, hs, rfl, hM1⟩
  subst hM1
  clear HC
  have HC := Lib.hid (claimsP J1 _ w1 c hs)
  have HL1 := Lib.hid hl1
  obtain ⟨y0, y1, y2, y3⟩ := clK (show Blk _ b1 24 (clC c) from hs.head)
  clear hs hl1
  go_wp2_with fail
  go_at_call 11
  refine HC.out.mono ?_
  rintro e w2 ⟨_, _, M2, rfl, _, hs, rfl, rfl, hM2⟩
  subst hM2
  clear HC y0 y1 y2 y3
  have HC := Lib.hid (makeP J1 _ w2 KA kc kb c hs (HKK.out.1.mono HL1.out) HKK.out.2 (HT.out.mono HL1.out) HZ.out)
  clear hs
  go_wp2_with fail
  go_at_call 10
  refine HC.out.mono ?_
  rintro e w3 ⟨_, J2, M3, rfl, hl2, hs, rfl, hM3⟩
  subst hM3
  clear HC
  have HL2 := Lib.hid (HL1.out.trans hl2)
  clear hl2
  cases gc : goodC c
  · have e1 := makeR_bad kb gc
    rw [e1]
    have HS := Lib.hid hs
    clear gc e1 hs
    go_wp2
    go_ret
    exact Ret.mk HL2.out HS.out rfl
  have e1 : makeR kb c = (tokT kb c, 0) := makeR_good kb gc
  rw [e1]
  have HC := Lib.hid (checkP J2 _ w3 KA kc kb c now mx hs (HKK.out.1.mono HL2.out) HKK.out.2 (HT.out.mono HL2.out) (HL2.out.cell HM3.out) HZ.out gc)
  clear e1 hs gc
  generalize bsA (tokT kb c) = X at HC ⊢
  go_wp2_with fail
  go_at_call 13
  refine HC.out.mono ?_
  rintro e w4 ⟨_, J3, M4, rfl, hl3, hs, hM4, hv⟩
  subst hM4 hv
  clear HC
  have HL3 := Lib.hid (HL2.out.trans hl3)
  clear hl3
  by_cases hn : c.til < now
  · simp only [if_pos hn]
    have hs2 := hs.alloc 30 zeroC
    clear hs
    simp only [zeroC] at hs2 ⊢
    go_upto_region 7 with fail
    generalize World.alloc w4 _ = W5 at hs2 ⊢
    generalize w4.heap.size = q at hs2 ⊢
    obtain ⟨y0, y1, y2, y3⟩ := clK (show Blk _ b1 24 (clC c) from hs2.at 1 rfl)
    obtain ⟨z0, z1, z2, z3, -⟩ := Blk.four (show Blk _ q 30 #[.string ⟨#[]⟩, .string ⟨#[]⟩, .int .i64 0, .int .i64 0] from hs2.head)
    have HS := Lib.hid hs2
    have hq := eqZ
    clear hs2
    go_wp2
    go_ret
    exact Ret.mk HL3.out HS.out rfl
  · simp only [if_neg hn]
    have hn' : now ≤ c.til := by omega
    have hs2 := hs.alloc 30 (clC c)
    clear hs hn
    simp only [clC] at hs2 ⊢
    go_upto_region 7 with fail
    generalize World.alloc w4 _ = W5 at hs2 ⊢
    generalize w4.heap.size = q at hs2 ⊢
    obtain ⟨y0, y1, y2, y3⟩ := clK (show Blk W5 b1 24 (clC c) from hs2.at 1 rfl)
    have HS2 := Lib.hid hs2
    clear hs2
    go_wp2_with fail
    have hs2 := HS2.out
    clear HS2 y0 y1 y2 y3
    replace hs2 := hs2.drew
    have hq := eqS c
    refine wp_region_held_drew (S := (fun w' => (w'.cell? ⟨q, 0, none⟩ = some (.string c.room) ∧ w'.cell? ⟨q, 1, none⟩ = some (.string c.user) ∧ w'.cell? ⟨q, 2, none⟩ = some (.int .i64 c.til) ∧ w'.cell? ⟨q, 3, none⟩ = some (.int .i64 c.rights)) ∧ (w'.cell? ⟨b1, 0, none⟩ = some (.string c.room) ∧ w'.cell? ⟨b1, 1, none⟩ = some (.string c.user) ∧ w'.cell? ⟨b1, 2, none⟩ = some (.int .i64 c.til) ∧ w'.cell? ⟨b1, 3, none⟩ = some (.int .i64 c.rights)))) (by kernel_rfl) (by (try dsimp only); exact ⟨clK (show Blk _ q 30 (clC c) from hs2.head), clK (show Blk _ b1 24 (clC c) from hs2.at 1 rfl)⟩) (fun hHeld => ?_)
    generalize World.drew _ = W6 at hs2 hHeld ⊢
    refine wpAnyH_take (i := 0) (oi := _) (v := ?_) rfl (by kernel_rfl) (by kernel_rfl) (by kernel_rfl) (fun _ _ _ h => h) (Or.inl ⟨by rfl, ?_⟩) (by assumption) ?_
    rotate_left
    · (intro w hSw; (try dsimp only at hSw); go_simp; try with_reducible rfl)
    try simp only [Act.put, List.getElem_toArray, List.getElem_cons_zero, List.getElem_cons_succ, List.setIfInBounds_toArray, List.set_cons_zero, List.set_cons_succ]
    refine wpAnyH_take (i := 1) (oi := _) (v := ?_) rfl (by kernel_rfl) (by kernel_rfl) (by kernel_rfl) (fun _ _ _ h => h) (Or.inl ⟨by rfl, ?_⟩) (by assumption) ?_
    rotate_left
    · (intro w hSw; (try dsimp only at hSw); go_simp; try with_reducible rfl)
    try simp only [Act.put, List.getElem_toArray, List.getElem_cons_zero, List.getElem_cons_succ, List.setIfInBounds_toArray, List.set_cons_zero, List.set_cons_succ]
    refine wpAnyH_take (i := 2) (oi := _) (v := ?_) rfl (by kernel_rfl) (by kernel_rfl) (by kernel_rfl) (fun _ _ _ h => h) (Or.inl ⟨by rfl, ?_⟩) (by assumption) ?_
    rotate_left
    · (intro w hSw; (try dsimp only at hSw); go_simp; try with_reducible rfl)
    try simp only [Act.put, List.getElem_toArray, List.getElem_cons_zero, List.getElem_cons_succ, List.setIfInBounds_toArray, List.set_cons_zero, List.set_cons_succ]
    refine wpAnyH_take (i := 3) (oi := _) (v := ?_) rfl (by kernel_rfl) (by kernel_rfl) (by kernel_rfl) (fun _ _ _ h => h) (Or.inl ⟨by rfl, ?_⟩) (by assumption) ?_
    rotate_left
    · (intro w hSw; (try dsimp only at hSw); go_simp; try with_reducible rfl)
    try simp only [Act.put, List.getElem_toArray, List.getElem_cons_zero, List.getElem_cons_succ, List.setIfInBounds_toArray, List.set_cons_zero, List.set_cons_succ]
    refine wpAnyH_take (i := 4) (oi := _) (v := ?_) rfl (by kernel_rfl) (by kernel_rfl) (by kernel_rfl) (fun _ _ _ h => h) (Or.inl ⟨by rfl, ?_⟩) (by assumption) ?_
    rotate_left
    · (intro w hSw; (try dsimp only at hSw); go_simp; try with_reducible rfl)
    try simp only [Act.put, List.getElem_toArray, List.getElem_cons_zero, List.getElem_cons_succ, List.setIfInBounds_toArray, List.set_cons_zero, List.set_cons_succ]
    refine wpAnyH_ready (rs := [5]) (by kernel_rfl) (by simp) ?_
    refine (AllReadyH.cons (o := _) rfl (fun K hK => ?_) AllReadyH.nil)
    have hc := claimsP J3 _ W6 c hs2
    have hc : Calls Tryd.prog 11 #[.agg #[.string c.room, .string c.user, .int .i64 c.til, .int .i64 c.rights]] W6 _ := hc
    go_simp
    refine hc.mono ?_
    clear hs2 hc
    rintro e w7 ⟨_, _, _, rfl, _, hs2, rfl, rfl, rfl⟩
    simp only [clC]
    try clear hHeld
    refine hK.out _ _ (by (try dsimp only); exact ⟨clK (show Blk _ q 30 (clC c) from hs2.head), clK (show Blk _ b1 24 (clC c) from hs2.at 1 rfl)⟩) (fun hHeld => ?_)
    clear hK K
    try simp only [Act.put, List.getElem_toArray, List.getElem_cons_zero, List.getElem_cons_succ, List.setIfInBounds_toArray, List.set_cons_zero, List.set_cons_succ]
    refine wpAnyH_take (i := 6) (oi := _) (v := ?_) rfl (by kernel_rfl) (by kernel_rfl) (by kernel_rfl) (fun _ _ _ h => h) (Or.inl ⟨by rfl, ?_⟩) (by assumption) ?_
    rotate_left
    · (intro w hSw; (try dsimp only at hSw); go_simp; try with_reducible rfl)
    try simp only [Act.put, List.getElem_toArray, List.getElem_cons_zero, List.getElem_cons_succ, List.setIfInBounds_toArray, List.set_cons_zero, List.set_cons_succ]
    refine wpAnyH_take (i := 7) (oi := _) (v := ?_) rfl (by kernel_rfl) (by kernel_rfl) (by kernel_rfl) (fun _ _ _ h => h) (Or.inl ⟨by rfl, ?_⟩) (by assumption) ?_
    rotate_left
    · (intro w hSw; (try dsimp only at hSw); go_simp; try with_reducible rfl)
    try simp only [Act.put, List.getElem_toArray, List.getElem_cons_zero, List.getElem_cons_succ, List.setIfInBounds_toArray, List.set_cons_zero, List.set_cons_succ]
    refine wpAnyH_take (i := 8) (oi := _) (v := ?_) rfl (by kernel_rfl) (by kernel_rfl) (by kernel_rfl) (fun _ _ _ h => h) (Or.inl ⟨by rfl, ?_⟩) (by assumption) ?_
    rotate_left
    · (intro w hSw; (try dsimp only at hSw); go_simp; try with_reducible rfl)
    try simp only [Act.put, List.getElem_toArray, List.getElem_cons_zero, List.getElem_cons_succ, List.setIfInBounds_toArray, List.set_cons_zero, List.set_cons_succ]
    refine wpAnyH_done (by kernel_rfl) ?_ _
    have HS := Lib.hid hs2
    clear hs2 hHeld
    go_wp2
    go_ret
    exact Ret.mk HL3.out HS.out rfl
end Go.Proofs.YtakgdmcekhafoaaDoor
