/- SignalBack. -/
import Derived.Test.YthmamheegkppdaaDoorSgK
namespace Go.Proofs.YthmamheegkppdaaDoor
open Go.RowKit
set_option linter.unusedSimpArgs false

theorem parseM_cases (l : List UInt8) : (∃ m, parseM l = (m, 0) ∧ printR m = (l, 0)) ∨ parseM l = (msg0, 2) ∨ parseM l = (msg0, 3) := by
  unfold parseM
  split
  · exact .inr (.inr rfl)
  · split
    · rename_i h
      refine .inl ⟨_, rfl, ?_⟩
      have h1 := print_words h.1 h.2
      have : printR (wordsM l) = ((printR (wordsM l)).1, (printR (wordsM l)).2) := rfl
      rw [this, h1, h.2]
    · exact .inr (.inl rfl)
theorem words_sz {l : List UInt8} : MsgSz (parseM l).1 := by
  have h0 : MsgSz msg0 := ⟨by decide, by decide, (fun a ha => by cases ha), by decide⟩
  unfold parseM
  split
  · exact h0
  · split
    · rename_i hl _
      obtain ⟨v, a, hv⟩ := splitC_ne 32 (cutC 10 l).1
      obtain ⟨h1, h2⟩ := splitC_len 32 (cutC 10 l).1
      obtain ⟨h3, h4⟩ := cutC_len 10 l
      rw [wordsM_of hv]
      rw [hv] at h1 h2
      rw [List.length_cons] at h1
      refine ⟨?_, ?_, fun b hb => ?_, ?_⟩
      · show (bsA v).size ≤ _
        rw [bsA_size]
        have := h2 v (by simp)
        unfold maxLen; omega
      · show (bsA _).size ≤ _
        rw [bsA_size]
        unfold maxLen; omega
      · obtain ⟨z, hz, rfl⟩ := List.mem_map.1 hb
        have := h2 z (by simp [hz])
        rw [bsA_size]
        unfold maxLen; omega
      · show (a.map bsA).length ≤ _
        rw [List.length_map]
        omega
    · exact h0
theorem printR_len (m : Msg) : (printR m).1.length ≤ 9192 := by
  rcases printR_cases m with ⟨_, h, e⟩ | ⟨e, _⟩
  · rw [e]
    simp only [List.length_append, ls_len]
    omega
  · rw [e]
    exact Nat.zero_le _
set_option maxRecDepth 100000 in
set_option maxHeartbeats 4000000 in
theorem law5 (I : Img) (M : List Res) (w : World) (mx : Int) (A : Option Addr) (c : Nat) (m : Msg) (s : ByteArray) (hst : St I M w) (hm : I.cell? ⟨0, 0, none⟩ = some (.int .i64 mx)) (ht : Tab10 I) (hA : Cells I A (strs m.args)) (hz : MsgSz m) (hl : m.args.length * 16 ≤ 140737488351232) (hs : s.size ≤ maxLen) :
    Calls Tryd.prog 5 #[.agg (msgC m (.slice A m.args.length c)), .string s] w (Ret I (fun v _ _ => v = .bool true)) := by
  have hs1 := hst.alloc 24 (msgC m (.slice A m.args.length c))
  obtain ⟨b, hb⟩ : ∃ b, b = w.heap.size := ⟨_, rfl⟩
  rw [← hb] at hs1
  have HA := Lib.hid hA
  have HSZ := Lib.hid hs
  clear hst hA hs
  go_enter Tryd.func5, Tryd.ntmps5
  go_upto_region 1 with fail
  rw [← hb]
  clear hb
  generalize World.alloc _ _ = W at hs1 ⊢
  have HC := Lib.hid (awakeP I _ W mx hs1 hm ht)
  clear hs1
  go_wp2_with fail
  go_at_call 8
  refine HC.out.mono ?_
  rintro e w2 ⟨_, J1, _, rfl, hl1, hs1, rfl, rfl⟩
  clear HC
  have HC := Lib.hid (theirsP J1 _ w2 A c m hs1 (HA.out.mono hl1) hl)
  obtain ⟨y0, y1, y2, -⟩ := Blk.three (show Blk w2 b 24 #[.string m.verb, .slice A m.args.length c, .string m.body] from hs1.head)
  clear hs1
  go_wp2_with fail
  go_at_call 11
  refine HC.out.mono ?_
  rintro e w3 ⟨_, J2, _, rfl, hl2, hs1, rfl, A2, c2, rfl, hA2⟩
  clear HC y0 y1 y2
  have HC := Lib.hid (printP J2 _ w3 A2 c2 m hs1 hA2 hz)
  have HL := Lib.hid (hl1.trans hl2)
  clear hs1 hl1 hl2 hA2
  go_wp2_with fail
  go_at_call 10
  refine HC.out.mono ?_
  rintro e w4 ⟨_, _, _, rfl, _, hs1, rfl, rfl, rfl⟩
  have HS := Lib.hid hs1
  clear HC hs1
  have hpk := printR_k m
  have HPP := Lib.hid (show (printR m).2 = 0 → parseM (ls (bsA (printR m).1)) = (m, 0) from parse_print)
  have hds : (bsA (printR m).1).size ≤ 10000 := by rw [bsA_size]; have := printR_len m; omega
  generalize bsA (printR m).1 = D at HPP hds ⊢
  generalize (printR m).2 = k at hpk HPP ⊢
  go_upto_if 22 with fail
  go_cut [] (fun wx => Hid (∃ J N, I.le J ∧ St J N wx))
  case first =>
    rcases hpk with rfl | rfl
    rotate_left
    · go_wp2
      go_meet
      exact Lib.hid ⟨J2, _, HL.out, HS.out⟩
    have hpp := HPP.out rfl
    have hpc := parseP J2 _ w4 D mx HS.out (HL.out.cell hm) (by unfold maxLen; omega)
    rw [hpp] at hpc
    have HC := Lib.hid hpc
    clear hpp hpc HPP
    go_wp2_with fail
    go_at_call 13
    refine HC.out.mono ?_
    rintro e w5 ⟨_, J3, _, rfl, hl3, hs5, rfl, A3, c3, rfl, hA3⟩
    clear HC
    have hs6 := hs5.alloc 30 #[.string m.verb, .slice A3 m.args.length c3, .string m.body]
    have HA3 := Lib.hid hA3
    have HA4 := Lib.hid (HA.out.mono (HL.out.trans hl3))
    have HL3 := Lib.hid (HL.out.trans hl3)
    simp only [msgC]
    clear hs5 hA3 hl3 HS
    go_wp2_with fail
    generalize World.alloc w5 _ = W5 at hs6 ⊢
    generalize w5.heap.size = q at hs6 ⊢
    replace hs6 := hs6.drew
    refine wp_region_held_drew (S := (fun w' => w'.cell? ⟨b, 0, none⟩ = some (.string m.verb) ∧ w'.cell? ⟨b, 1, none⟩ = some (.slice A m.args.length c) ∧ w'.cell? ⟨b, 2, none⟩ = some (.string m.body) ∧ w'.cell? ⟨q, 0, none⟩ = some (.string m.verb) ∧ w'.cell? ⟨q, 1, none⟩ = some (.slice A3 m.args.length c3) ∧ w'.cell? ⟨q, 2, none⟩ = some (.string m.body))) (by kernel_rfl) (by (try dsimp only); exact zkeep hs6) (fun hHeld => ?_)
    generalize World.drew _ = W6 at hs6 hHeld ⊢
    refine wpAnyH_take (i := 0) (oi := _) (v := ?_) rfl (by kernel_rfl) (by kernel_rfl) (by kernel_rfl) (fun _ _ _ h => h) (Or.inl ⟨by rfl, ?_⟩) (by assumption) ?_
    rotate_left
    · (intro w hSw; (try dsimp only at hSw); go_simp; try with_reducible rfl)
    try simp only [Act.put, List.getElem_toArray, List.getElem_cons_zero, List.getElem_cons_succ, List.setIfInBounds_toArray, List.set_cons_zero, List.set_cons_succ]
    refine wpAnyH_take (i := 1) (oi := _) (v := ?_) rfl (by kernel_rfl) (by kernel_rfl) (by kernel_rfl) (fun _ _ _ h => h) (Or.inl ⟨by rfl, ?_⟩) (by assumption) ?_
    rotate_left
    · (intro w hSw; (try dsimp only at hSw); go_simp; try with_reducible rfl)
    try simp only [Act.put, List.getElem_toArray, List.getElem_cons_zero, List.getElem_cons_succ, List.setIfInBounds_toArray, List.set_cons_zero, List.set_cons_succ]
    refine wpAnyH_take (i := 2) (oi := _) (v := ?_) rfl (by kernel_rfl) (by kernel_rfl) (by kernel_rfl) (fun _ _ _ h => h) (Or.inl ⟨by rfl, ?_⟩) (by assumption) ?_
    rotate_left
    · (intro w hSw; (try dsimp only at hSw); go_simp; try with_reducible rfl)
    try simp only [Act.put, List.getElem_toArray, List.getElem_cons_zero, List.getElem_cons_succ, List.setIfInBounds_toArray, List.set_cons_zero, List.set_cons_succ]
    refine wpAnyH_take (i := 3) (oi := _) (v := ?_) rfl (by kernel_rfl) (by kernel_rfl) (by kernel_rfl) (fun _ _ _ h => h) (Or.inl ⟨by rfl, ?_⟩) (by assumption) ?_
    rotate_left
    · (intro w hSw; (try dsimp only at hSw); go_simp; try with_reducible rfl)
    try simp only [Act.put, List.getElem_toArray, List.getElem_cons_zero, List.getElem_cons_succ, List.setIfInBounds_toArray, List.set_cons_zero, List.set_cons_succ]
    refine wpAnyH_take (i := 5) (oi := _) (v := ?_) rfl (by kernel_rfl) (by kernel_rfl) (by kernel_rfl) (fun _ _ _ h => h) (Or.inl ⟨by rfl, ?_⟩) (by assumption) ?_
    rotate_left
    · (intro w hSw; (try dsimp only at hSw); go_simp; try with_reducible rfl)
    try simp only [Act.put, List.getElem_toArray, List.getElem_cons_zero, List.getElem_cons_succ, List.setIfInBounds_toArray, List.set_cons_zero, List.set_cons_succ]
    refine wpAnyH_ready (rs := [4]) (by kernel_rfl) (by simp) ?_
    refine (AllReadyH.cons (o := _) rfl (fun K hK => ?_) AllReadyH.nil)
    have hc := oursP J3 _ W6 m (.slice A3 m.args.length c3) ⟨_, _, _, rfl⟩ hs6
    have hc : Calls Tryd.prog 15 #[.agg #[.string m.verb, .slice A3 m.args.length c3, .string m.body]] W6 _ := hc
    go_simp
    refine hc.mono ?_
    clear hs6 hc
    rintro e w7 ⟨_, _, _, rfl, _, hs6, rfl, rfl, rfl⟩
    try clear hHeld
    refine hK.out _ _ (by (try dsimp only); exact zkeep hs6) (fun hHeld => ?_)
    clear hK K
    try simp only [Act.put, List.getElem_toArray, List.getElem_cons_zero, List.getElem_cons_succ, List.setIfInBounds_toArray, List.set_cons_zero, List.set_cons_succ]
    refine wpAnyH_ready (rs := [6]) (by kernel_rfl) (by simp) ?_
    refine (AllReadyH.cons (o := _) rfl (fun K hK => ?_) AllReadyH.nil)
    have hc := sameP J3 _ w7 A3 A c3 c m hs6 HA3.out HA4.out (by omega)
    have hc : Calls Tryd.prog 14 #[.agg #[.string m.verb, .slice A3 m.args.length c3, .string m.body], .agg #[.string m.verb, .slice A m.args.length c, .string m.body]] w7 _ := hc
    go_simp
    refine hc.mono ?_
    clear hs6 hc
    rintro e w8 ⟨_, _, _, rfl, _, hs6, rfl, rfl, rfl⟩
    try clear hHeld
    refine hK.out _ _ (by (try dsimp only); exact zkeep hs6) (fun hHeld => ?_)
    clear hK K
    try simp only [Act.put, List.getElem_toArray, List.getElem_cons_zero, List.getElem_cons_succ, List.setIfInBounds_toArray, List.set_cons_zero, List.set_cons_succ]
    refine wpAnyH_take (i := 7) (oi := _) (v := ?_) rfl (by kernel_rfl) (by kernel_rfl) (by kernel_rfl) (fun _ _ _ h => h) (Or.inl ⟨by rfl, ?_⟩) (by assumption) ?_
    rotate_left
    · (intro w hSw; (try dsimp only at hSw); go_simp; try with_reducible rfl)
    try simp only [Act.put, List.getElem_toArray, List.getElem_cons_zero, List.getElem_cons_succ, List.setIfInBounds_toArray, List.set_cons_zero, List.set_cons_succ]
    refine wpAnyH_take (i := 8) (oi := _) (v := ?_) rfl (by kernel_rfl) (by kernel_rfl) (by kernel_rfl) (fun _ _ _ h => h) (Or.inl ⟨by rfl, ?_⟩) (by assumption) ?_
    rotate_left
    · (intro w hSw; (try dsimp only at hSw); go_simp; try with_reducible rfl)
    try simp only [Act.put, List.getElem_toArray, List.getElem_cons_zero, List.getElem_cons_succ, List.setIfInBounds_toArray, List.set_cons_zero, List.set_cons_succ]
    refine wpAnyH_done (by kernel_rfl) ?_ _
    have HS6 := Lib.hid hs6
    clear hs6 hHeld
    go_wp2
    go_meet
    exact Lib.hid ⟨J3, _, HL3.out, HS6.out⟩
  case rest =>
  obtain ⟨J, N, hJ, hsN⟩ := hcut.out
  clear hcut HS HL HPP
  have hpc := parseP J N wc s mx hsN (hJ.cell hm) HSZ.out
  have HPS := Lib.hid (words_sz (l := ls s))
  have HMC := Lib.hid (parseM_cases (ls s))
  generalize parseM (ls s) = P at hpc HPS HMC
  obtain ⟨m2, k2⟩ := P
  have HC := Lib.hid hpc
  have HJ := Lib.hid hJ
  clear hpc hsN hJ
  go_wp2_with fail
  go_at_call 13
  refine HC.out.mono ?_
  rintro e w5 ⟨_, J3, _, rfl, hl3, hs5, rfl, A3, c3, rfl, hA3⟩
  clear HC
  dsimp only at hA3 ⊢
  have hs6 := hs5.alloc 30 #[.string m2.verb, .slice A3 m2.args.length c3, .string m2.body]
  have HA3 := Lib.hid hA3
  have HL3 := Lib.hid (HJ.out.trans hl3)
  simp only [msgC]
  clear hs5 hA3 hl3
  rcases HMC.out with ⟨m3, e1, e2⟩ | e1 | e1
  · injection e1 with e1 e3
    subst e1 e3
    have hpr := printP J3 _ _ A3 c3 m2 hs6 HA3.out HPS.out
    rw [e2] at hpr
    have HC : Hid (Calls Tryd.prog 10 #[.agg #[.string m2.verb, .slice A3 m2.args.length c3, .string m2.body]] _ _) := Lib.hid hpr
    clear hpr hs6 e2 HMC HPS
    go_wp2_with fail
    go_at_call 10
    refine HC.out.mono ?_
    rintro e w7 ⟨_, _, _, rfl, _, hs7, rfl, rfl, rfl⟩
    have HS7 := Lib.hid hs7
    clear HC hs7
    have heq : ((bsA (ls s)).toList == s.toList) = true := by
      show (s.toList == s.toList) = true
      exact beq_self_eq_true _
    generalize bsA (ls s) = s' at heq ⊢
    go_wp2
    go_ret
    exact Ret.mk HL3.out HS7.out rfl
  · injection e1 with e1 e3
    subst e1 e3
    have HS7 := Lib.hid hs6
    clear hs6 HMC HPS
    simp only [msg0, List.length_nil]
    go_wp2
    go_ret
    exact Ret.mk HL3.out HS7.out rfl
  · injection e1 with e1 e3
    subst e1 e3
    have HS7 := Lib.hid hs6
    clear hs6 HMC HPS
    simp only [msg0, List.length_nil]
    go_wp2
    go_ret
    exact Ret.mk HL3.out HS7.out rfl
end Go.Proofs.YthmamheegkppdaaDoor
