/- rostrumref22: good, head, seal, Make. -/
import Derived.Test.YtakgdmcekhafoaaDoorToT
import Derived.Test.YtakgdmcekhafoaaDoorToK
import Derived.Test.YtakgdmcekhafoaaDoorDrS
namespace Go.Proofs.YtakgdmcekhafoaaDoor
open Go.RowKit
set_option linter.unusedSimpArgs false

set_option maxRecDepth 8000 in
set_option maxHeartbeats 1000000 in
theorem goodRf (I : Img) (M : List Res) (w : World) (c : Cl) (hst : St I M w) (hz : ClSz c) : Calls Tryd.prog 15 #[.agg (clC c)] w (Ret I (fun v J M' => I = J ∧ v = .bool (goodC c) ∧ M' = M)) := by
  obtain ⟨room, user, til, rights⟩ := c
  obtain ⟨hz1, hz2⟩ := hz
  simp only at hz1 hz2
  have hs := hst.alloc 24 (clC ⟨room, user, til, rights⟩)
  clear hst
  go_enter Tryd.func15, Tryd.ntmps15
  go_upto_region 1 with fail
  obtain ⟨b, hb⟩ : ∃ b, b = w.heap.size := ⟨_, rfl⟩
  rw [← hb] at hs
  simp only [clC]
  rw [← hb]
  change St I (bk b 24 #[.string room, .string user, .int .i64 til, .int .i64 rights] :: M) (w.alloc (.cells #[.string room, .string user, .int .i64 til, .int .i64 rights] 24)) at hs
  generalize World.alloc _ _ = W at hs ⊢
  clear hb
  obtain ⟨y0, y1, y2, y3, -⟩ := Blk.four hs.head
  cases hr : wordB room 1 32
  · have HC : Hid (Calls Tryd.prog 27 #[.string room, .int .i64 1, .int .i64 32] W fun e w' => e = .returned (.bool false) ∧ W = w') := Lib.hid (by have := wordR room 1 32 W hz1; rwa [hr] at this)
    have HG := Lib.hid (show goodC ⟨room, user, til, rights⟩ = false by simp [goodC, hr])
    clear hr
    go_wp2_with fail
    go_at_call 27
    refine HC.out.mono ?_
    rintro e w' ⟨rfl, rfl⟩
    have HS := Lib.hid hs
    clear hs
    go_wp2; go_ret; exact Ret.mk (.refl I) HS.out.drop ⟨rfl, congrArg Value.bool HG.out.symm, rfl⟩
  have HC : Hid (Calls Tryd.prog 27 #[.string room, .int .i64 1, .int .i64 32] W fun e w' => e = .returned (.bool true) ∧ W = w') := Lib.hid (by have := wordR room 1 32 W hz1; rwa [hr] at this)
  have HR := Lib.hid hr
  clear hr
  go_wp2_with fail
  go_at_call 27
  refine HC.out.mono ?_
  rintro e w' ⟨rfl, rfl⟩
  clear y0 y1 y2 y3 HC
  obtain ⟨y0, y1, y2, y3, -⟩ := Blk.four hs.head
  cases hr : wordB user 1 32
  · have HC : Hid (Calls Tryd.prog 27 #[.string user, .int .i64 1, .int .i64 32] W fun e w2 => e = .returned (.bool false) ∧ W = w2) := Lib.hid (by have := wordR user 1 32 W hz2; rwa [hr] at this)
    have HG := Lib.hid (show goodC ⟨room, user, til, rights⟩ = false by simp [goodC, hr])
    clear hr
    go_wp2_with fail
    go_at_call 27
    refine HC.out.mono ?_
    rintro e w2 ⟨rfl, rfl⟩
    have HS := Lib.hid hs
    clear hs
    go_wp2; go_ret; exact Ret.mk (.refl I) HS.out.drop ⟨rfl, congrArg Value.bool HG.out.symm, rfl⟩
  have HC : Hid (Calls Tryd.prog 27 #[.string user, .int .i64 1, .int .i64 32] W fun e w2 => e = .returned (.bool true) ∧ W = w2) := Lib.hid (by have := wordR user 1 32 W hz2; rwa [hr] at this)
  have HU := Lib.hid hr
  clear hr
  go_wp2_with fail
  go_at_call 27
  refine HC.out.mono ?_
  rintro e w2 ⟨rfl, rfl⟩
  clear y0 y1 y2 y3 HC
  obtain ⟨y0, y1, y2, y3, -⟩ := Blk.four hs.head
  have HS := Lib.hid hs
  clear hs
  by_cases h1 : 0 ≤ til
  rotate_left
  · have HG := Lib.hid (show goodC ⟨room, user, til, rights⟩ = false by simp [goodC, h1])
    have d1 : decide (0 ≤ til) = false := by simpa using h1
    go_wp2; go_ret; exact Ret.mk (.refl I) HS.out.drop ⟨rfl, congrArg Value.bool HG.out.symm, rfl⟩
  by_cases h2 : til ≤ 4611686018427387904
  rotate_left
  · have HG := Lib.hid (show goodC ⟨room, user, til, rights⟩ = false by simp [goodC, h2])
    have d1 : decide (til ≤ 4611686018427387904) = false := by simpa using h2
    go_wp2; go_ret; exact Ret.mk (.refl I) HS.out.drop ⟨rfl, congrArg Value.bool HG.out.symm, rfl⟩
  by_cases h3 : 0 ≤ rights
  rotate_left
  · have HG := Lib.hid (show goodC ⟨room, user, til, rights⟩ = false by simp [goodC, h3])
    have d1 : decide (0 ≤ rights) = false := by simpa using h3
    go_wp2; go_ret; exact Ret.mk (.refl I) HS.out.drop ⟨rfl, congrArg Value.bool HG.out.symm, rfl⟩
  by_cases h4 : rights ≤ 7
  rotate_left
  · have HG := Lib.hid (show goodC ⟨room, user, til, rights⟩ = false by simp [goodC, h4])
    have d1 : decide (rights ≤ 7) = false := by simpa using h4
    go_wp2; go_ret; exact Ret.mk (.refl I) HS.out.drop ⟨rfl, congrArg Value.bool HG.out.symm, rfl⟩
  · have HG := Lib.hid (show goodC ⟨room, user, til, rights⟩ = true by simp [goodC, HR.out, HU.out, h1, h2, h3, h4])
    go_wp2; go_ret; exact Ret.mk (.refl I) HS.out.drop ⟨rfl, congrArg Value.bool HG.out.symm, rfl⟩
set_option maxRecDepth 8000 in
set_option maxHeartbeats 1000000 in
theorem headRf (I : Img) (M : List Res) (w : World) (c : Cl) (hst : St I M w) (hg : goodC c = true) : Calls Tryd.prog 16 #[.agg (clC c)] w (Ret I (fun v J M' => I = J ∧ v = .string (bsA (textC c)) ∧ M' = M)) := by
  obtain ⟨g1, g2, g3, g4, g5, g6⟩ := (goodC_iff c).1 hg
  have z1 := (word_size g1).1
  have z2 := (word_size g2).1
  obtain ⟨room, user, til, rights⟩ := c
  simp only at g3 g4 g5 g6 z1 z2
  have hs := hst.alloc 24 (clC ⟨room, user, til, rights⟩)
  clear hst hg g1 g2
  go_enter Tryd.func16, Tryd.ntmps16
  go_upto_region 1 with fail
  obtain ⟨b, hb⟩ : ∃ b, b = w.heap.size := ⟨_, rfl⟩
  rw [← hb] at hs
  simp only [clC]
  rw [← hb]
  change St I _ (w.alloc (.cells #[.string room, .string user, .int .i64 til, .int .i64 rights] 24)) at hs
  generalize World.alloc _ _ = W at hs ⊢
  clear hb
  replace hs := hs.drew
  have hr : Lib.itoa rights = Lib.decDigits rights.toNat := by unfold Lib.itoa; rw [if_neg (by omega)]
  have ht1 : Lib.itoa til = Lib.decDigits til.toNat := by unfold Lib.itoa; rw [if_neg (by omega)]
  have HE : Hid (textC ⟨room, user, til, rights⟩ = ls room ++ 46 :: (ls user ++ 46 :: (ls (bsA (Lib.itoa til)) ++ 46 :: ls (bsA (Lib.itoa rights))))) := rfl
  have hl1 : (bsA (Lib.itoa til)).size ≤ 19 := by rw [bsA_size, ht1]; exact dec_len 19 _ (by decide) (by omega)
  have hl2 : (bsA (Lib.itoa rights)).size ≤ 1 := by rw [bsA_size, hr]; exact dec_len 1 _ (by decide) (by omega)
  have HC1 := Lib.hid (show ∀ (w : World) (M : List Res), St I M w → Calls Tryd.prog 28 #[.int .u64 til] w (Ret I (fun v J M' => I = J ∧ M' = M ∧ v = .string (bsA (Lib.itoa til)))) from fun w M h => by
    have := NuS.digitsR I M w til.toNat h (by omega)
    rw [show ((til.toNat : Nat) : Int) = til by omega] at this
    rw [ht1]
    exact this)
  have HC2 := Lib.hid (show ∀ (w : World) (M : List Res), St I M w → Calls Tryd.prog 28 #[.int .u64 rights] w (Ret I (fun v J M' => I = J ∧ M' = M ∧ v = .string (bsA (Lib.itoa rights)))) from fun w M h => by
    have := NuS.digitsR I M w rights.toNat h (by omega)
    rw [show ((rights.toNat : Nat) : Int) = rights by omega] at this
    rw [hr]
    exact this)
  clear hr ht1
  have hw1 : IntKind.u64.wrap til = til := by rw [u64_mod]; omega
  have hw2 : IntKind.u64.wrap rights = rights := by rw [u64_mod]; omega
  generalize bsA (Lib.itoa til) = D1 at HC1 HE hl1
  generalize bsA (Lib.itoa rights) = D2 at HC2 HE hl2
  refine wp_region_held_drew (S := (fun w' => w'.cell? ⟨b, 0, none⟩ = some (.string room) ∧ w'.cell? ⟨b, 1, none⟩ = some (.string user) ∧ w'.cell? ⟨b, 2, none⟩ = some (.int .i64 til) ∧ w'.cell? ⟨b, 3, none⟩ = some (.int .i64 rights))) (by kernel_rfl) (by (try dsimp only); exact clK (show Blk _ b 24 (clC ⟨room, user, til, rights⟩) from hs.head)) (fun hHeld => ?_)
  refine wpAnyH_take (i := 0) (oi := _) (v := ?_) rfl (by kernel_rfl) (by kernel_rfl) (by kernel_rfl) (fun _ _ _ h => h) (Or.inl ⟨by rfl, ?_⟩) (by assumption) ?_
  rotate_left
  · (intro w hSw; (try dsimp only at hSw); go_simp; try with_reducible rfl)
  try simp only [Act.put, List.getElem_toArray, List.getElem_cons_zero, List.getElem_cons_succ, List.setIfInBounds_toArray, List.set_cons_zero, List.set_cons_succ]
  refine wpAnyH_take (i := 1) (oi := _) (v := ?_) rfl (by kernel_rfl) (by kernel_rfl) (by kernel_rfl) (fun _ _ _ h => h) (Or.inl ⟨by rfl, ?_⟩) (by assumption) ?_
  rotate_left
  · (intro w hSw; (try dsimp only at hSw); go_simp; try with_reducible rfl)
  try simp only [Act.put, List.getElem_toArray, List.getElem_cons_zero, List.getElem_cons_succ, List.setIfInBounds_toArray, List.set_cons_zero, List.set_cons_succ]
  refine wpAnyH_take (i := 2) (oi := _) (v := ?_) rfl (by kernel_rfl) (by kernel_rfl) (by kernel_rfl) (fun _ _ _ h => h) (Or.inl ⟨by rfl, ?_⟩) (by assumption) ?_
  rotate_left
  · (intro w hSw; (try dsimp only at hSw); go_simp; rw [if_neg (by omega)])
  try simp only [Act.put, List.getElem_toArray, List.getElem_cons_zero, List.getElem_cons_succ, List.setIfInBounds_toArray, List.set_cons_zero, List.set_cons_succ]
  refine wpAnyH_take (i := 3) (oi := _) (v := ?_) rfl (by kernel_rfl) (by kernel_rfl) (by kernel_rfl) (fun _ _ _ h => h) (Or.inl ⟨by rfl, ?_⟩) (by assumption) ?_
  rotate_left
  · (intro w hSw; (try dsimp only at hSw); go_simp; try with_reducible rfl)
  try simp only [Act.put, List.getElem_toArray, List.getElem_cons_zero, List.getElem_cons_succ, List.setIfInBounds_toArray, List.set_cons_zero, List.set_cons_succ]
  refine wpAnyH_take (i := 4) (oi := _) (v := ?_) rfl (by kernel_rfl) (by kernel_rfl) (by kernel_rfl) (fun _ _ _ h => h) (Or.inl ⟨by rfl, ?_⟩) (by assumption) ?_
  rotate_left
  · (intro w hSw; (try dsimp only at hSw); go_simp; try with_reducible rfl)
  try simp only [Act.put, List.getElem_toArray, List.getElem_cons_zero, List.getElem_cons_succ, List.setIfInBounds_toArray, List.set_cons_zero, List.set_cons_succ]
  refine wpAnyH_take (i := 5) (oi := _) (v := ?_) rfl (by kernel_rfl) (by kernel_rfl) (by kernel_rfl) (fun _ _ _ h => h) (Or.inl ⟨by rfl, ?_⟩) (by assumption) ?_
  rotate_left
  · (intro w hSw; (try dsimp only at hSw); go_simp; rw [if_neg (by omega)])
  try simp only [Act.put, List.getElem_toArray, List.getElem_cons_zero, List.getElem_cons_succ, List.setIfInBounds_toArray, List.set_cons_zero, List.set_cons_succ]
  refine wpAnyH_take (i := 6) (oi := _) (v := ?_) rfl (by kernel_rfl) (by kernel_rfl) (by kernel_rfl) (fun _ _ _ h => h) (Or.inl ⟨by rfl, ?_⟩) (by assumption) ?_
  rotate_left
  · (intro w hSw; (try dsimp only at hSw); go_simp; rw [if_neg (by omega)])
  try simp only [Act.put, List.getElem_toArray, List.getElem_cons_zero, List.getElem_cons_succ, List.setIfInBounds_toArray, List.set_cons_zero, List.set_cons_succ]
  refine wpAnyH_take (i := 7) (oi := _) (v := ?_) rfl (by kernel_rfl) (by kernel_rfl) (by kernel_rfl) (fun _ _ _ h => h) (Or.inl ⟨by rfl, ?_⟩) (by assumption) ?_
  rotate_left
  · (intro w hSw; (try dsimp only at hSw); go_simp; try with_reducible rfl)
  try simp only [Act.put, List.getElem_toArray, List.getElem_cons_zero, List.getElem_cons_succ, List.setIfInBounds_toArray, List.set_cons_zero, List.set_cons_succ]
  refine wpAnyH_take (i := 8) (oi := _) (v := ?_) rfl (by kernel_rfl) (by kernel_rfl) (by kernel_rfl) (fun _ _ _ h => h) (Or.inl ⟨by rfl, ?_⟩) (by assumption) ?_
  rotate_left
  · (intro w hSw; (try dsimp only at hSw); go_simp; try with_reducible rfl)
  try simp only [Act.put, List.getElem_toArray, List.getElem_cons_zero, List.getElem_cons_succ, List.setIfInBounds_toArray, List.set_cons_zero, List.set_cons_succ]
  refine wpAnyH_take (i := 9) (oi := _) (v := ?_) rfl (by kernel_rfl) (by kernel_rfl) (by kernel_rfl) (fun _ _ _ h => h) (Or.inl ⟨by rfl, ?_⟩) (by assumption) ?_
  rotate_left
  · (intro w hSw; (try dsimp only at hSw); go_simp; try with_reducible rfl)
  try simp only [Act.put, List.getElem_toArray, List.getElem_cons_zero, List.getElem_cons_succ, List.setIfInBounds_toArray, List.set_cons_zero, List.set_cons_succ]
  refine wpAnyH_take (i := 13) (oi := _) (v := ?_) rfl (by kernel_rfl) (by kernel_rfl) (by kernel_rfl) (fun _ _ _ h => h) (Or.inl ⟨by rfl, ?_⟩) (by assumption) ?_
  rotate_left
  · (intro w hSw; (try dsimp only at hSw); go_simp; try with_reducible rfl)
  try simp only [Act.put, List.getElem_toArray, List.getElem_cons_zero, List.getElem_cons_succ, List.setIfInBounds_toArray, List.set_cons_zero, List.set_cons_succ]
  refine wpAnyH_take (i := 14) (oi := _) (v := ?_) rfl (by kernel_rfl) (by kernel_rfl) (by kernel_rfl) (fun _ _ _ h => h) (Or.inl ⟨by rfl, ?_⟩) (by assumption) ?_
  rotate_left
  · (intro w hSw; (try dsimp only at hSw); go_simp; try with_reducible rfl)
  try simp only [Act.put, List.getElem_toArray, List.getElem_cons_zero, List.getElem_cons_succ, List.setIfInBounds_toArray, List.set_cons_zero, List.set_cons_succ]
  refine wpAnyH_take (i := 15) (oi := _) (v := ?_) rfl (by kernel_rfl) (by kernel_rfl) (by kernel_rfl) (fun _ _ _ h => h) (Or.inl ⟨by rfl, ?_⟩) (by assumption) ?_
  rotate_left
  · (intro w hSw; (try dsimp only at hSw); go_simp; try with_reducible rfl)
  try simp only [Act.put, List.getElem_toArray, List.getElem_cons_zero, List.getElem_cons_succ, List.setIfInBounds_toArray, List.set_cons_zero, List.set_cons_succ]
  refine wpAnyH_ready (rs := [10]) (by kernel_rfl) (by simp) ?_
  refine (AllReadyH.cons (o := _) rfl (fun K hK => ?_) AllReadyH.nil)
  go_simp
  refine (HC1.out _ _ hs).mono ?_
  rintro e w' ⟨_, _, _, rfl, _, hs, rfl, rfl, rfl⟩
  try clear hHeld
  refine hK.out _ _ (by (try dsimp only); exact clK (show Blk _ b 24 (clC ⟨room, user, til, rights⟩) from hs.head)) (fun hHeld => ?_)
  clear hK K
  try simp only [Act.put, List.getElem_toArray, List.getElem_cons_zero, List.getElem_cons_succ, List.setIfInBounds_toArray, List.set_cons_zero, List.set_cons_succ]
  refine wpAnyH_take (i := 11) (oi := _) (v := ?_) rfl (by kernel_rfl) (by kernel_rfl) (by kernel_rfl) (fun _ _ _ h => h) (Or.inl ⟨by rfl, ?_⟩) (by assumption) ?_
  rotate_left
  · (intro w hSw; (try dsimp only at hSw); go_simp; rw [if_neg (by omega)])
  try simp only [Act.put, List.getElem_toArray, List.getElem_cons_zero, List.getElem_cons_succ, List.setIfInBounds_toArray, List.set_cons_zero, List.set_cons_succ]
  refine wpAnyH_take (i := 12) (oi := _) (v := ?_) rfl (by kernel_rfl) (by kernel_rfl) (by kernel_rfl) (fun _ _ _ h => h) (Or.inl ⟨by rfl, ?_⟩) (by assumption) ?_
  rotate_left
  · (intro w hSw; (try dsimp only at hSw); go_simp; rw [if_neg (by omega)])
  try simp only [Act.put, List.getElem_toArray, List.getElem_cons_zero, List.getElem_cons_succ, List.setIfInBounds_toArray, List.set_cons_zero, List.set_cons_succ]
  refine wpAnyH_ready (rs := [16]) (by kernel_rfl) (by simp) ?_
  refine (AllReadyH.cons (o := _) rfl (fun K hK => ?_) AllReadyH.nil)
  go_simp
  refine (HC2.out _ _ hs).mono ?_
  rintro e w' ⟨_, _, _, rfl, _, hs, rfl, rfl, rfl⟩
  try clear hHeld
  refine hK.out _ _ (by (try dsimp only); exact clK (show Blk _ b 24 (clC ⟨room, user, til, rights⟩) from hs.head)) (fun hHeld => ?_)
  clear hK K
  try simp only [Act.put, List.getElem_toArray, List.getElem_cons_zero, List.getElem_cons_succ, List.setIfInBounds_toArray, List.set_cons_zero, List.set_cons_succ]
  refine wpAnyH_take (i := 17) (oi := _) (v := ?_) rfl (by kernel_rfl) (by kernel_rfl) (by kernel_rfl) (fun _ _ _ h => h) (Or.inl ⟨by rfl, ?_⟩) (by assumption) ?_
  rotate_left
  · (intro w hSw; (try dsimp only at hSw); go_simp; rw [if_neg (by omega)])
  try simp only [Act.put, List.getElem_toArray, List.getElem_cons_zero, List.getElem_cons_succ, List.setIfInBounds_toArray, List.set_cons_zero, List.set_cons_succ]
  refine wpAnyH_take (i := 18) (oi := _) (v := ?_) rfl (by kernel_rfl) (by kernel_rfl) (by kernel_rfl) (fun _ _ _ h => h) (Or.inl ⟨by rfl, ?_⟩) (by assumption) ?_
  rotate_left
  · (intro w hSw; (try dsimp only at hSw); go_simp; try with_reducible rfl)
  try simp only [Act.put, List.getElem_toArray, List.getElem_cons_zero, List.getElem_cons_succ, List.setIfInBounds_toArray, List.set_cons_zero, List.set_cons_succ]
  refine wpAnyH_done (by kernel_rfl) ?_ _
  have HS := Lib.hid hs
  clear hs hHeld
  go_wp2
  go_ret
  refine Ret.mk (.refl I) HS.out.drop ⟨rfl, ?_, rfl⟩
  rw [HE.out]
  exact congrArg Value.string (ls_inj (by simp [app_ls]))
set_option maxRecDepth 8000 in
set_option maxHeartbeats 1000000 in
theorem sealRf (I : Img) (M : List Res) (w : World) (KA : Option Addr) (kc : Nat) (kb : List UInt8) (s : ByteArray) (hst : St I M w) (hk : Byts I KA kb) (hkl : kb.length ≤ 140737488351232) (hz : s.size ≤ 140737488350000) :
    Calls Tryd.prog 17 #[.slice KA kb.length kc, .string s] w (Ret I (fun v _ M' => v = .string (bsA (hexOf (macS kb (ls s)))) ∧ M' = M)) := by
  have hconv := run_bytes_of_string (P := Tryd.prog) w 9 22 5 s Tryd.underlying9 Tryd.underlying22 Tryd.underlying5
  obtain ⟨J, hl, hs, hb⟩ := hst.bytesOf s (grownCap w s.size 0 5) ((bytesRow s (grownCap w s.size 0 5)).size, (bytesRow s (grownCap w s.size 0 5)).size + 1)
  generalize World.alloc w.drew _ = w1 at hconv hs
  obtain ⟨cp, hcp⟩ : ∃ c, c = grownCap w s.size 0 5 := ⟨_, rfl⟩
  rw [← hcp] at hconv
  obtain ⟨T, hT⟩ : ∃ T, T = macS kb (ls s) := ⟨_, rfl⟩
  have hTl : T.length = 20 := by rw [hT]; exact macS_len _ _
  have HC : Hid (Calls Tryd.prog 29 #[.slice KA kb.length kc, .slice (some ⟨w.heap.size, 0, none⟩) s.size cp] w1 (Ret J (fun v _ M' => v = .agg (bvs T).toArray ∧ M' = M))) := by
    have := macR J M w1 KA (some ⟨w.heap.size, 0, none⟩) kc cp kb (ls s) hs (hk.mono hl) hb hkl (by rw [ls_len]; omega)
    rw [ls_len, ← hT] at this
    exact this
  have HL := Lib.hid hl
  have HT := Lib.hid hT
  obtain ⟨O, hO⟩ : ∃ O, O = (bvs T).toArray := ⟨_, rfl⟩
  rw [← hO] at HC
  have hi61 : (Tryd.prog.info? 61).map (·.size) = some O.size := by rw [info61, hO]; simp [bvs, hTl]
  have ho1 : O.all (·.oneCell') = true := by rw [hO, List.all_toArray]; exact List.all_eq_true.2 (bvs_one _)
  have hos : zero20.size = O.size := by rw [hO]; simp [bvs, hTl]
  have HO := Lib.hid hO
  have HTL := Lib.hid hTl
  clear hst hk hs hb hcp hl hT hO hTl
  go_enter Tryd.func17, Tryd.ntmps17
  go_wp2_with fail
  go_at_call 29
  refine HC.out.mono ?_
  rintro e w2 ⟨_, J2, _, rfl, hl2, hs2, rfl, rfl⟩
  have hs3 := hs2.alloc 61 zero20
  have hbx : (w2.alloc (.cells zero20 61)).heap[w2.heap.size]? = some (.cells zero20 61 (0, 0)) := hs3.head
  obtain ⟨J3, hl3, hs4, ho3⟩ := (hs3.setR O).freezeBlk
  have HC2 := Lib.hid (hexRf J3 _ _ (some ⟨w2.heap.size, 0, none⟩) 20 T hs4 (Byts.ofBlk ho3 (by rw [HO.out])) (by rw [HTL.out]; decide))
  rw [HTL.out] at HC2
  have HL3 := Lib.hid (HL.out.trans (hl2.trans hl3))
  clear hs2 hs3 hs4 ho3 hl2 hl3 HC hconv
  go_wp2_with (first | refine wpList_store_row rfl 61 (.tmp 5) (.tmp 9) rfl w2.heap.size O rfl rfl 61 _ hbx hi61 hos ho1 ?_ | (go_at_call 30; refine HC2.out.mono ?_; rintro e w3 ⟨_, _, _, rfl, _, hs5, rfl, rfl, rfl⟩))
  go_ret
  exact Ret.mk HL3.out hs5 ⟨by rw [HT.out]; rfl, rfl⟩
set_option maxRecDepth 8000 in
set_option maxHeartbeats 1000000 in
theorem makeRf (I : Img) (M : List Res) (w : World) (KA : Option Addr) (kc : Nat) (kb : List UInt8) (c : Cl) (hst : St I M w) (hk : Byts I KA kb) (hkl : kb.length ≤ 140737488351232) (hz : ClSz c) :
    Calls Tryd.prog 9 #[.slice KA kb.length kc, .agg (clC c)] w (Ret I (fun v _ M' => v = .tuple #[.string (bsA (makeR kb c).1), .int .i64 (makeR kb c).2] ∧ M' = M)) := by
  have hs := hst.alloc 24 (clC c)
  obtain ⟨b, hb⟩ : ∃ b, b = w.heap.size := ⟨_, rfl⟩
  rw [← hb] at hs
  clear hst
  go_enter Tryd.func9, Tryd.ntmps9
  go_upto_region 1 with fail
  rw [← hb]
  clear hb
  generalize World.alloc _ _ = W at hs ⊢
  obtain ⟨y0, y1, y2, y3⟩ := clK (show Blk W b 24 (clC c) from hs.head)
  cases hg : goodC c
  · have HC := goodRf I _ W c hs hz
    rw [hg] at HC
    have HC2 := Lib.hid HC
    have HE := Lib.hid (show makeR kb c = ([], 1) from by unfold makeR; rw [hg]; rfl)
    clear hg hs HC
    go_wp2_with fail
    go_at_call 15
    refine HC2.out.mono ?_
    rintro e w2 ⟨_, _, _, rfl, _, hs2, rfl, rfl, rfl⟩
    go_wp2
    go_ret2
    exact Ret.mk (.refl I) hs2.drop ⟨by rw [HE.out]; rfl, rfl⟩
  · have HC := goodRf I _ W c hs hz
    rw [hg] at HC
    have HC2 := Lib.hid HC
    have HE := Lib.hid (show makeR kb c = (textC c ++ 46 :: hexOf (macS kb (textC c)), 0) from by unfold makeR; rw [hg]; rfl)
    have HTL := Lib.hid (textC_len hg)
    have HG := Lib.hid hg
    clear hg hs HC
    go_upto_region 3 with (go_at_call 15; refine HC2.out.mono ?_; rintro e w2 ⟨_, _, _, rfl, _, hs2, rfl, rfl, rfl⟩)
    clear y0 y1 y2 y3 HC2
    replace hs2 := hs2.drew
    have HC1 := Lib.hid (show ∀ (w : World) (M : List Res), St I M w → Calls Tryd.prog 16 #[.agg (clC c)] w (Ret I (fun v J M' => I = J ∧ v = .string (bsA (textC c)) ∧ M' = M)) from fun w M h => headRf I M w c h HG.out)
    have HC3 := Lib.hid (show ∀ (w : World) (M : List Res), St I M w → Calls Tryd.prog 17 #[.slice KA kb.length kc, .string (bsA (textC c))] w (Ret I (fun v _ M' => v = .string (bsA (hexOf (macS kb (textC c)))) ∧ M' = M)) from fun w M h => sealRf I M w KA kc kb (bsA (textC c)) h hk hkl (by rw [bsA_size]; have := HTL.out; omega))
    have hl1 : (bsA (textC c)).size ≤ 100 := by rw [bsA_size]; exact HTL.out
    have hl2 : (bsA (hexOf (macS kb (textC c)))).size ≤ 40 := by rw [bsA_size, hexOf_len, macS_len]; exact Nat.le_refl _
    have HF := Lib.hid (show ls (bsA (makeR kb c).1) = ls (bsA (textC c)) ++ 46 :: ls (bsA (hexOf (macS kb (textC c)))) from by rw [HE.out])
    have HN := Lib.hid (show (makeR kb c).2 = 0 from by rw [HE.out])
    generalize bsA (hexOf (macS kb (textC c))) = D2 at HC3 hl2 HF
    generalize bsA (textC c) = D1 at HC1 HC3 hl1 HF
    refine wp_region_held_drew (S := (fun w' => w'.cell? ⟨b, 0, none⟩ = some (.string c.room) ∧ w'.cell? ⟨b, 1, none⟩ = some (.string c.user) ∧ w'.cell? ⟨b, 2, none⟩ = some (.int .i64 c.til) ∧ w'.cell? ⟨b, 3, none⟩ = some (.int .i64 c.rights))) (by kernel_rfl) (by (try dsimp only); first | exact clK (show Blk _ b 24 (clC c) from hs2.head) | exact clK (show Blk _ b 24 (clC c) from hs3.head)) (fun hHeld => ?_)
    refine wpAnyH_take (i := 0) (oi := _) (v := ?_) rfl (by kernel_rfl) (by kernel_rfl) (by kernel_rfl) (fun _ _ _ h => h) (Or.inl ⟨by rfl, ?_⟩) (by assumption) ?_
    rotate_left
    · (intro w hSw; (try dsimp only at hSw); go_simp; try with_reducible rfl)
    try simp only [Act.put, List.getElem_toArray, List.getElem_cons_zero, List.getElem_cons_succ, List.setIfInBounds_toArray, List.set_cons_zero, List.set_cons_succ]
    refine wpAnyH_take (i := 3) (oi := _) (v := ?_) rfl (by kernel_rfl) (by kernel_rfl) (by kernel_rfl) (fun _ _ _ h => h) (Or.inl ⟨by rfl, ?_⟩) (by assumption) ?_
    rotate_left
    · (intro w hSw; (try dsimp only at hSw); go_simp; try with_reducible rfl)
    try simp only [Act.put, List.getElem_toArray, List.getElem_cons_zero, List.getElem_cons_succ, List.setIfInBounds_toArray, List.set_cons_zero, List.set_cons_succ]
    refine wpAnyH_take (i := 4) (oi := _) (v := ?_) rfl (by kernel_rfl) (by kernel_rfl) (by kernel_rfl) (fun _ _ _ h => h) (Or.inl ⟨by rfl, ?_⟩) (by assumption) ?_
    rotate_left
    · (intro w hSw; (try dsimp only at hSw); go_simp; try with_reducible rfl)
    try simp only [Act.put, List.getElem_toArray, List.getElem_cons_zero, List.getElem_cons_succ, List.setIfInBounds_toArray, List.set_cons_zero, List.set_cons_succ]
    refine wpAnyH_ready (rs := [1]) (by kernel_rfl) (by simp) ?_
    refine (AllReadyH.cons (o := _) rfl (fun K hK => ?_) AllReadyH.nil)
    go_simp
    refine (HC1.out _ _ hs2).mono ?_
    rintro e w' ⟨_, _, _, rfl, _, hs2, rfl, rfl, rfl⟩
    try clear hHeld
    refine hK.out _ _ (by (try dsimp only); first | exact clK (show Blk _ b 24 (clC c) from hs2.head) | exact clK (show Blk _ b 24 (clC c) from hs3.head)) (fun hHeld => ?_)
    clear hK K
    try simp only [Act.put, List.getElem_toArray, List.getElem_cons_zero, List.getElem_cons_succ, List.setIfInBounds_toArray, List.set_cons_zero, List.set_cons_succ]
    refine wpAnyH_take (i := 2) (oi := _) (v := ?_) rfl (by kernel_rfl) (by kernel_rfl) (by kernel_rfl) (fun _ _ _ h => h) (Or.inl ⟨by rfl, ?_⟩) (by assumption) ?_
    rotate_left
    · (intro w hSw; (try dsimp only at hSw); go_simp; rw [if_neg (by omega)])
    try simp only [Act.put, List.getElem_toArray, List.getElem_cons_zero, List.getElem_cons_succ, List.setIfInBounds_toArray, List.set_cons_zero, List.set_cons_succ]
    refine wpAnyH_ready (rs := [5]) (by kernel_rfl) (by simp) ?_
    refine (AllReadyH.cons (o := _) rfl (fun K hK => ?_) AllReadyH.nil)
    go_simp
    refine (HC1.out _ _ hs2).mono ?_
    rintro e w' ⟨_, _, _, rfl, _, hs2, rfl, rfl, rfl⟩
    try clear hHeld
    refine hK.out _ _ (by (try dsimp only); first | exact clK (show Blk _ b 24 (clC c) from hs2.head) | exact clK (show Blk _ b 24 (clC c) from hs3.head)) (fun hHeld => ?_)
    clear hK K
    try simp only [Act.put, List.getElem_toArray, List.getElem_cons_zero, List.getElem_cons_succ, List.setIfInBounds_toArray, List.set_cons_zero, List.set_cons_succ]
    refine wpAnyH_ready (rs := [6]) (by kernel_rfl) (by simp) ?_
    refine (AllReadyH.cons (o := _) rfl (fun K hK => ?_) AllReadyH.nil)
    go_simp
    refine (HC3.out _ _ hs2).mono ?_
    rintro e w' ⟨_, J3, _, rfl, hl3, hs3, rfl, rfl⟩
    try clear hHeld
    refine hK.out _ _ (by (try dsimp only); first | exact clK (show Blk _ b 24 (clC c) from hs2.head) | exact clK (show Blk _ b 24 (clC c) from hs3.head)) (fun hHeld => ?_)
    clear hK K
    try simp only [Act.put, List.getElem_toArray, List.getElem_cons_zero, List.getElem_cons_succ, List.setIfInBounds_toArray, List.set_cons_zero, List.set_cons_succ]
    refine wpAnyH_take (i := 7) (oi := _) (v := ?_) rfl (by kernel_rfl) (by kernel_rfl) (by kernel_rfl) (fun _ _ _ h => h) (Or.inl ⟨by rfl, ?_⟩) (by assumption) ?_
    rotate_left
    · (intro w hSw; (try dsimp only at hSw); go_simp; rw [if_neg (by omega)])
    try simp only [Act.put, List.getElem_toArray, List.getElem_cons_zero, List.getElem_cons_succ, List.setIfInBounds_toArray, List.set_cons_zero, List.set_cons_succ]
    refine wpAnyH_take (i := 8) (oi := _) (v := ?_) rfl (by kernel_rfl) (by kernel_rfl) (by kernel_rfl) (fun _ _ _ h => h) (Or.inl ⟨by rfl, ?_⟩) (by assumption) ?_
    rotate_left
    · (intro w hSw; (try dsimp only at hSw); go_simp; try with_reducible rfl)
    try simp only [Act.put, List.getElem_toArray, List.getElem_cons_zero, List.getElem_cons_succ, List.setIfInBounds_toArray, List.set_cons_zero, List.set_cons_succ]
    refine wpAnyH_take (i := 9) (oi := _) (v := ?_) rfl (by kernel_rfl) (by kernel_rfl) (by kernel_rfl) (fun _ _ _ h => h) (Or.inl ⟨by rfl, ?_⟩) (by assumption) ?_
    rotate_left
    · (intro w hSw; (try dsimp only at hSw); go_simp; try with_reducible rfl)
    try simp only [Act.put, List.getElem_toArray, List.getElem_cons_zero, List.getElem_cons_succ, List.setIfInBounds_toArray, List.set_cons_zero, List.set_cons_succ]
    refine wpAnyH_done (by kernel_rfl) ?_ _
    have HS := Lib.hid hs3
    clear hs2 hHeld
    go_wp2
    go_ret2
    refine Ret.mk hl3 HS.out.drop ⟨?_, rfl⟩
    rw [HN.out]
    exact congrArg (fun x => Value.tuple #[.string x, .int .i64 0]) (ls_inj (by rw [HF.out]; simp [app_ls]))
end Go.Proofs.YtakgdmcekhafoaaDoor
