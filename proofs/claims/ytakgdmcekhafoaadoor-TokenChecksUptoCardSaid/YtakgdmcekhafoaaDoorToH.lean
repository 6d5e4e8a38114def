/- token.seal, token.Make. -/
import Derived.Test.YtakgdmcekhafoaaDoorToG
import Derived.Test.YtakgdmcekhafoaaDoorBy
namespace Go.Proofs.YtakgdmcekhafoaaDoor
open Go.RowKit
set_option linter.unusedSimpArgs false

set_option maxRecDepth 8000 in
set_option maxHeartbeats 1000000 in
theorem sealP (I : Img) (M : List Res) (w : World) (KA : Option Addr) (kc : Nat) (kb : List UInt8) (s : ByteArray) (hst : St I M w) (hk : Byts I KA kb) (hkl : kb.length ≤ 140737488351232) (hz : s.size ≤ 140737488350000) :
    Calls Tryd.prog 20 #[.slice KA kb.length kc, .string s] w (Ret I (fun v _ M' => v = .string (bsA (hexOf (macS kb (ls s)))) ∧ M' = M)) := by
  have hconv := run_bytes_of_string (P := Tryd.prog) w 9 22 5 s Tryd.underlying9 Tryd.underlying22 Tryd.underlying5
  obtain ⟨J, hl, hs, hb⟩ := hst.bytesOf s (grownCap w s.size 0 5) ((bytesRow s (grownCap w s.size 0 5)).size, (bytesRow s (grownCap w s.size 0 5)).size + 1)
  generalize World.alloc w.drew _ = w1 at hconv hs
  obtain ⟨cp, hcp⟩ : ∃ c, c = grownCap w s.size 0 5 := ⟨_, rfl⟩
  rw [← hcp] at hconv
  obtain ⟨T, hT⟩ : ∃ T, T = macS kb (ls s) := ⟨_, rfl⟩
  have hTl : T.length = 20 := by rw [hT]; exact macS_len _ _
  have HC : Hid (Calls Tryd.prog 34 #[.slice KA kb.length kc, .slice (some ⟨w.heap.size, 0, none⟩) s.size cp] w1 (Ret J (fun v _ M' => v = .agg (bvs T).toArray ∧ M' = M))) := by
    have := macP J M w1 KA (some ⟨w.heap.size, 0, none⟩) kc cp kb (ls s) hs (hk.mono hl) hb hkl (by rw [ls_len]; omega)
    rw [ls_len, ← hT] at this
    exact this
  have HL := Lib.hid hl
  have HT := Lib.hid hT
  obtain ⟨O, hO⟩ : ∃ O, O = (bvs T).toArray := ⟨_, rfl⟩
  rw [← hO] at HC
  have hi61 : (Tryd.prog.info? 61).map (·.size) = some O.size := by rw [info61, hO]; simp [bvs, hTl]
  have ho1 : O.all (·.oneCell') = true := by rw [hO, List.all_toArray]; exact List.all_eq_true.2 (bvs_one _)
  have hos : zero20.size = O.size := by rw [hO]; simp [bvs, hTl]
  have HO := Lib.hid hO
  have HTL := Lib.hid hTl
  clear hst hk hs hb hcp hl hT hO hTl
  go_enter Tryd.func20, Tryd.ntmps20
  go_wp2_with fail
  go_at_call 34
  refine HC.out.mono ?_
  rintro e w2 ⟨_, J2, _, rfl, hl2, hs2, rfl, rfl⟩
  have hs3 := hs2.alloc 61 zero20
  have hbx : (w2.alloc (.cells zero20 61)).heap[w2.heap.size]? = some (.cells zero20 61 (0, 0)) := hs3.head
  obtain ⟨J3, hl3, hs4, ho3⟩ := (hs3.setR O).freezeBlk
  have HC2 := Lib.hid (hexP J3 _ _ (some ⟨w2.heap.size, 0, none⟩) 20 T hs4 (Byts.ofBlk ho3 (by rw [HO.out])) (by rw [HTL.out]; decide))
  rw [HTL.out] at HC2
  have HL3 := Lib.hid (HL.out.trans (hl2.trans hl3))
  clear hs2 hs3 hs4 ho3 hl2 hl3 HC hconv
  go_wp2_with (first | refine wpList_store_row rfl 61 (.tmp 5) (.tmp 9) rfl w2.heap.size O rfl rfl 61 _ hbx hi61 hos ho1 ?_ | (go_at_call 35; refine HC2.out.mono ?_; rintro e w3 ⟨_, _, _, rfl, _, hs5, rfl, rfl, rfl⟩))
  go_ret
  exact Ret.mk HL3.out hs5 ⟨by rw [HT.out]; rfl, rfl⟩
def makeR (kb : List UInt8) (c : Cl) : List UInt8 × Int := if goodC c = true then (textC c ++ 46 :: hexOf (macS kb (textC c)), 0) else ([], 1)
theorem textC_len {c : Cl} (h : goodC c = true) : (textC c).length ≤ 100 := by
  obtain ⟨g1, g2, g3, g4, g5, g6⟩ := (goodC_iff c).1 h
  have z1 := (word_size g1).1
  have z2 := (word_size g2).1
  have hr : Lib.itoa c.rights = Lib.decDigits c.rights.toNat := by unfold Lib.itoa; rw [if_neg (by omega)]
  have ht : Lib.itoa c.til = Lib.decDigits c.til.toNat := by unfold Lib.itoa; rw [if_neg (by omega)]
  have h1 := dec_len 19 c.til.toNat (by decide) (by omega)
  have h2 := dec_len 1 c.rights.toNat (by decide) (by omega)
  unfold textC
  simp only [List.length_append, List.length_cons, ls_len, hr, ht]
  omega
set_option maxRecDepth 8000 in
set_option maxHeartbeats 1000000 in
theorem makeP (I : Img) (M : List Res) (w : World) (KA : Option Addr) (kc : Nat) (kb : List UInt8) (c : Cl) (hst : St I M w) (hk : Byts I KA kb) (hkl : kb.length ≤ 140737488351232) (ht : Tab10 I) (hz : ClSz c) :
    Calls Tryd.prog 10 #[.slice KA kb.length kc, .agg (clC c)] w (Ret I (fun v _ M' => v = .tuple #[.string (bsA (makeR kb c).1), .int .i64 (makeR kb c).2] ∧ M' = M)) := by
  have hs := hst.alloc 30 (clC c)
  obtain ⟨b, hb⟩ : ∃ b, b = w.heap.size := ⟨_, rfl⟩
  rw [← hb] at hs
  clear hst
  go_enter Tryd.func10, Tryd.ntmps10
  go_upto_region 1 with fail
  rw [← hb]
  clear hb
  generalize World.alloc _ _ = W at hs ⊢
  obtain ⟨y0, y1, y2, y3⟩ := clKeep (show Blk W b 30 (clC c) from hs.head)
  cases hg : goodC c
  · have HC := goodP I _ W c hs hz
    rw [hg] at HC
    have HC2 := Lib.hid HC
    have HE := Lib.hid (show makeR kb c = ([], 1) from by unfold makeR; rw [hg]; rfl)
    clear hg hs HC
    go_wp2_with fail
    go_at_call 18
    refine HC2.out.mono ?_
    rintro e w2 ⟨_, _, _, rfl, _, hs2, rfl, rfl, rfl⟩
    go_wp2
    go_ret2
    exact Ret.mk (.refl I) hs2.drop ⟨by rw [HE.out]; rfl, rfl⟩
  · have HC := goodP I _ W c hs hz
    rw [hg] at HC
    have HC2 := Lib.hid HC
    have HE := Lib.hid (show makeR kb c = (textC c ++ 46 :: hexOf (macS kb (textC c)), 0) from by unfold makeR; rw [hg]; rfl)
    have HTL := Lib.hid (textC_len hg)
    have HG := Lib.hid hg
    clear hg hs HC
    go_upto_region 3 with (go_at_call 18; refine HC2.out.mono ?_; rintro e w2 ⟨_, _, _, rfl, _, hs2, rfl, rfl, rfl⟩)
    clear y0 y1 y2 y3 HC2
    replace hs2 := hs2.drew
    have HC1 := Lib.hid (show ∀ (w : World) (M : List Res), St I M w → Calls Tryd.prog 19 #[.agg (clC c)] w (Ret I (fun v J M' => I = J ∧ v = .string (bsA (textC c)) ∧ M' = M)) from fun w M h => textP I M w c h ht HG.out)
    have HC3 := Lib.hid (show ∀ (w : World) (M : List Res), St I M w → Calls Tryd.prog 20 #[.slice KA kb.length kc, .string (bsA (textC c))] w (Ret I (fun v _ M' => v = .string (bsA (hexOf (macS kb (textC c)))) ∧ M' = M)) from fun w M h => sealP I M w KA kc kb (bsA (textC c)) h hk hkl (by rw [bsA_size]; have := HTL.out; omega))
    have hl1 : (bsA (textC c)).size ≤ 100 := by rw [bsA_size]; exact HTL.out
    have hl2 : (bsA (hexOf (macS kb (textC c)))).size ≤ 40 := by rw [bsA_size, hexOf_len, macS_len]; exact Nat.le_refl _
    have HF := Lib.hid (show ls (bsA (makeR kb c).1) = ls (bsA (textC c)) ++ 46 :: ls (bsA (hexOf (macS kb (textC c)))) from by rw [HE.out])
    have HN := Lib.hid (show (makeR kb c).2 = 0 from by rw [HE.out])
    generalize bsA (hexOf (macS kb (textC c))) = D2 at HC3 hl2 HF
    generalize bsA (textC c) = D1 at HC1 HC3 hl1 HF
    refine wp_region_held_drew (S := (fun w' => w'.cell? ⟨b, 0, none⟩ = some (.string c.room) ∧ w'.cell? ⟨b, 1, none⟩ = some (.string c.user) ∧ w'.cell? ⟨b, 2, none⟩ = some (.int .i64 c.til) ∧ w'.cell? ⟨b, 3, none⟩ = some (.int .i64 c.rights))) (by kernel_rfl) (by (try dsimp only); first | exact clKeep (show Blk _ b 30 (clC c) from hs2.head) | exact clKeep (show Blk _ b 30 (clC c) from hs3.head)) (fun hHeld => ?_)
    refine wpAnyH_take (i := 0) (oi := _) (v := ?_) rfl (by kernel_rfl) (by kernel_rfl) (by kernel_rfl) (fun _ _ _ h => h) (Or.inl ⟨by rfl, ?_⟩) (by assumption) ?_
    rotate_left
    · (intro w hSw; (try dsimp only at hSw); go_simp; try with_reducible rfl)
    try simp only [Act.put, List.getElem_toArray, List.getElem_cons_zero, List.getElem_cons_succ, List.setIfInBounds_toArray, List.set_cons_zero, List.set_cons_succ]
    refine wpAnyH_take (i := 3) (oi := _) (v := ?_) rfl (by kernel_rfl) (by kernel_rfl) (by kernel_rfl) (fun _ _ _ h => h) (Or.inl ⟨by rfl, ?_⟩) (by assumption) ?_
    rotate_left
    · (intro w hSw; (try dsimp only at hSw); go_simp; try with_reducible rfl)
    try simp only [Act.put, List.getElem_toArray, List.getElem_cons_zero, List.getElem_cons_succ, List.setIfInBounds_toArray, List.set_cons_zero, List.set_cons_succ]
    refine wpAnyH_take (i := 4) (oi := _) (v := ?_) rfl (by kernel_rfl) (by kernel_rfl) (by kernel_rfl) (fun _ _ _ h => h) (Or.inl ⟨by rfl, ?_⟩) (by assumption) ?_
    rotate_left
    · (intro w hSw; (try dsimp only at hSw); go_simp; try with_reducible rfl)
    try simp only [Act.put, List.getElem_toArray, List.getElem_cons_zero, List.getElem_cons_succ, List.setIfInBounds_toArray, List.set_cons_zero, List.set_cons_succ]
    refine wpAnyH_ready (rs := [1]) (by kernel_rfl) (by simp) ?_
    refine (AllReadyH.cons (o := _) rfl (fun K hK => ?_) AllReadyH.nil)
    go_simp
    refine (HC1.out _ _ hs2).mono ?_
    rintro e w' ⟨_, _, _, rfl, _, hs2, rfl, rfl, rfl⟩
    try clear hHeld
    refine hK.out _ _ (by (try dsimp only); first | exact clKeep (show Blk _ b 30 (clC c) from hs2.head) | exact clKeep (show Blk _ b 30 (clC c) from hs3.head)) (fun hHeld => ?_)
    clear hK K
    try simp only [Act.put, List.getElem_toArray, List.getElem_cons_zero, List.getElem_cons_succ, List.setIfInBounds_toArray, List.set_cons_zero, List.set_cons_succ]
    refine wpAnyH_take (i := 2) (oi := _) (v := ?_) rfl (by kernel_rfl) (by kernel_rfl) (by kernel_rfl) (fun _ _ _ h => h) (Or.inl ⟨by rfl, ?_⟩) (by assumption) ?_
    rotate_left
    · (intro w hSw; (try dsimp only at hSw); go_simp; rw [if_neg (by omega)])
    try simp only [Act.put, List.getElem_toArray, List.getElem_cons_zero, List.getElem_cons_succ, List.setIfInBounds_toArray, List.set_cons_zero, List.set_cons_succ]
    refine wpAnyH_ready (rs := [5]) (by kernel_rfl) (by simp) ?_
    refine (AllReadyH.cons (o := _) rfl (fun K hK => ?_) AllReadyH.nil)
    go_simp
    refine (HC1.out _ _ hs2).mono ?_
    rintro e w' ⟨_, _, _, rfl, _, hs2, rfl, rfl, rfl⟩
    try clear hHeld
    refine hK.out _ _ (by (try dsimp only); first | exact clKeep (show Blk _ b 30 (clC c) from hs2.head) | exact clKeep (show Blk _ b 30 (clC c) from hs3.head)) (fun hHeld => ?_)
    clear hK K
    try simp only [Act.put, List.getElem_toArray, List.getElem_cons_zero, List.getElem_cons_succ, List.setIfInBounds_toArray, List.set_cons_zero, List.set_cons_succ]
    refine wpAnyH_ready (rs := [6]) (by kernel_rfl) (by simp) ?_
    refine (AllReadyH.cons (o := _) rfl (fun K hK => ?_) AllReadyH.nil)
    go_simp
    refine (HC3.out _ _ hs2).mono ?_
    rintro e w' ⟨_, J3, _, rfl, hl3, hs3, rfl, rfl⟩
    try clear hHeld
    refine hK.out _ _ (by (try dsimp only); first | exact clKeep (show Blk _ b 30 (clC c) from hs2.head) | exact clKeep (show Blk _ b 30 (clC c) from hs3.head)) (fun hHeld => ?_)
    clear hK K
    try simp only [Act.put, List.getElem_toArray, List.getElem_cons_zero, List.getElem_cons_succ, List.setIfInBounds_toArray, List.set_cons_zero, List.set_cons_succ]
    refine wpAnyH_take (i := 7) (oi := _) (v := ?_) rfl (by kernel_rfl) (by kernel_rfl) (by kernel_rfl) (fun _ _ _ h => h) (Or.inl ⟨by rfl, ?_⟩) (by assumption) ?_
    rotate_left
    · (intro w hSw; (try dsimp only at hSw); go_simp; rw [if_neg (by omega)])
    try simp only [Act.put, List.getElem_toArray, List.getElem_cons_zero, List.getElem_cons_succ, List.setIfInBounds_toArray, List.set_cons_zero, List.set_cons_succ]
    refine wpAnyH_take (i := 8) (oi := _) (v := ?_) rfl (by kernel_rfl) (by kernel_rfl) (by kernel_rfl) (fun _ _ _ h => h) (Or.inl ⟨by rfl, ?_⟩) (by assumption) ?_
    rotate_left
    · (intro w hSw; (try dsimp only at hSw); go_simp; try with_reducible rfl)
    try simp only [Act.put, List.getElem_toArray, List.getElem_cons_zero, List.getElem_cons_succ, List.setIfInBounds_toArray, List.set_cons_zero, List.set_cons_succ]
    refine wpAnyH_take (i := 9) (oi := _) (v := ?_) rfl (by kernel_rfl) (by kernel_rfl) (by kernel_rfl) (fun _ _ _ h => h) (Or.inl ⟨by rfl, ?_⟩) (by assumption) ?_
    rotate_left
    · (intro w hSw; (try dsimp only at hSw); go_simp; try with_reducible rfl)
    try simp only [Act.put, List.getElem_toArray, List.getElem_cons_zero, List.getElem_cons_succ, List.setIfInBounds_toArray, List.set_cons_zero, List.set_cons_succ]
    refine wpAnyH_done (by kernel_rfl) ?_ _
    have HS := Lib.hid hs3
    clear hs2 hHeld
    go_wp2
    go_ret2
    refine Ret.mk hl3 HS.out.drop ⟨?_, rfl⟩
    rw [HN.out]
    exact congrArg (fun x => Value.tuple #[.string x, .int .i64 0]) (ls_inj (by rw [HF.out]; simp [app_ls]))
end Go.Proofs.YtakgdmcekhafoaaDoor
