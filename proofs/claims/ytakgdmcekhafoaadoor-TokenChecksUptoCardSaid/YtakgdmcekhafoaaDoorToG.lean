/- token.Claims: good, text. -/
import Derived.Test.YtakgdmcekhafoaaDoorToF
import Derived.Test.YtakgdmcekhafoaaDoorWo
import Derived.Lib.AppendIntMem
namespace Go.Proofs.YtakgdmcekhafoaaDoor
open Go.RowKit
set_option linter.unusedSimpArgs false

structure Cl where
  room : ByteArray
  user : ByteArray
  til : Int
  rights : Int
def clC (c : Cl) : Array Value := #[.string c.room, .string c.user, .int .i64 c.til, .int .i64 c.rights]
def ClSz (c : Cl) : Prop := c.room.size ≤ maxLen ∧ c.user.size ≤ maxLen
def goodC (c : Cl) : Bool := wordB c.room 1 32 && (wordB c.user 1 32 && (decide (0 ≤ c.til) && (decide (c.til ≤ 4611686018427387904) && (decide (0 ≤ c.rights) && decide (c.rights ≤ 7)))))
set_option maxRecDepth 8000 in
set_option maxHeartbeats 1000000 in
theorem goodP (I : Img) (M : List Res) (w : World) (c : Cl) (hst : St I M w) (hz : ClSz c) : Calls Tryd.prog 18 #[.agg (clC c)] w (Ret I (fun v J M' => I = J ∧ v = .bool (goodC c) ∧ M' = M)) := by
  obtain ⟨room, user, til, rights⟩ := c
  obtain ⟨hz1, hz2⟩ := hz
  simp only at hz1 hz2
  have hs := hst.alloc 30 (clC ⟨room, user, til, rights⟩)
  clear hst
  go_enter Tryd.func18, Tryd.ntmps18
  go_upto_region 1 with fail
  obtain ⟨b, hb⟩ : ∃ b, b = w.heap.size := ⟨_, rfl⟩
  rw [← hb] at hs
  simp only [clC]
  rw [← hb]
  change St I (bk b 30 #[.string room, .string user, .int .i64 til, .int .i64 rights] :: M) (w.alloc (.cells #[.string room, .string user, .int .i64 til, .int .i64 rights] 30)) at hs
  generalize World.alloc _ _ = W at hs ⊢
  clear hb
  obtain ⟨y0, y1, y2, y3, -⟩ := Blk.four hs.head
  cases hr : wordB room 1 32
  · have HC : Hid (Calls Tryd.prog 31 #[.string room, .int .i64 1, .int .i64 32] W fun e w' => e = .returned (.bool false) ∧ Below W.heap.size W w') := Lib.hid (by have := wordP room 1 32 W hz1; rwa [hr] at this)
    have HG := Lib.hid (show goodC ⟨room, user, til, rights⟩ = false by simp [goodC, hr])
    clear hr
    go_wp2_with fail
    go_at_call 31
    refine HC.out.mono ?_
    rintro e w' ⟨rfl, hb⟩
    have HS := Lib.hid (hs.below hb)
    clear hs hb
    go_wp2; go_ret; exact Ret.mk (.refl I) HS.out.drop ⟨rfl, congrArg Value.bool HG.out.symm, rfl⟩
  have HC : Hid (Calls Tryd.prog 31 #[.string room, .int .i64 1, .int .i64 32] W fun e w' => e = .returned (.bool true) ∧ Below W.heap.size W w') := Lib.hid (by have := wordP room 1 32 W hz1; rwa [hr] at this)
  have HR := Lib.hid hr
  clear hr
  go_wp2_with fail
  go_at_call 31
  refine HC.out.mono ?_
  rintro e w' ⟨rfl, hb⟩
  replace hs := hs.below hb
  clear hb y0 y1 y2 y3 HC
  obtain ⟨y0, y1, y2, y3, -⟩ := Blk.four hs.head
  cases hr : wordB user 1 32
  · have HC : Hid (Calls Tryd.prog 31 #[.string user, .int .i64 1, .int .i64 32] w' fun e w2 => e = .returned (.bool false) ∧ Below w'.heap.size w' w2) := Lib.hid (by have := wordP user 1 32 w' hz2; rwa [hr] at this)
    have HG := Lib.hid (show goodC ⟨room, user, til, rights⟩ = false by simp [goodC, hr])
    clear hr
    go_wp2_with fail
    go_at_call 31
    refine HC.out.mono ?_
    rintro e w2 ⟨rfl, hb⟩
    have HS := Lib.hid (hs.below hb)
    clear hs hb
    go_wp2; go_ret; exact Ret.mk (.refl I) HS.out.drop ⟨rfl, congrArg Value.bool HG.out.symm, rfl⟩
  have HC : Hid (Calls Tryd.prog 31 #[.string user, .int .i64 1, .int .i64 32] w' fun e w2 => e = .returned (.bool true) ∧ Below w'.heap.size w' w2) := Lib.hid (by have := wordP user 1 32 w' hz2; rwa [hr] at this)
  have HU := Lib.hid hr
  clear hr
  go_wp2_with fail
  go_at_call 31
  refine HC.out.mono ?_
  rintro e w2 ⟨rfl, hb⟩
  replace hs := hs.below hb
  clear hb y0 y1 y2 y3 HC
  obtain ⟨y0, y1, y2, y3, -⟩ := Blk.four hs.head
  have HS := Lib.hid hs
  clear hs
  by_cases h1 : 0 ≤ til
  rotate_left
  · have HG := Lib.hid (show goodC ⟨room, user, til, rights⟩ = false by simp [goodC, h1])
    have d1 : decide (0 ≤ til) = false := by simpa using h1
    go_wp2; go_ret; exact Ret.mk (.refl I) HS.out.drop ⟨rfl, congrArg Value.bool HG.out.symm, rfl⟩
  by_cases h2 : til ≤ 4611686018427387904
  rotate_left
  · have HG := Lib.hid (show goodC ⟨room, user, til, rights⟩ = false by simp [goodC, h2])
    have d1 : decide (til ≤ 4611686018427387904) = false := by simpa using h2
    go_wp2; go_ret; exact Ret.mk (.refl I) HS.out.drop ⟨rfl, congrArg Value.bool HG.out.symm, rfl⟩
  by_cases h3 : 0 ≤ rights
  rotate_left
  · have HG := Lib.hid (show goodC ⟨room, user, til, rights⟩ = false by simp [goodC, h3])
    have d1 : decide (0 ≤ rights) = false := by simpa using h3
    go_wp2; go_ret; exact Ret.mk (.refl I) HS.out.drop ⟨rfl, congrArg Value.bool HG.out.symm, rfl⟩
  by_cases h4 : rights ≤ 7
  rotate_left
  · have HG := Lib.hid (show goodC ⟨room, user, til, rights⟩ = false by simp [goodC, h4])
    have d1 : decide (rights ≤ 7) = false := by simpa using h4
    go_wp2; go_ret; exact Ret.mk (.refl I) HS.out.drop ⟨rfl, congrArg Value.bool HG.out.symm, rfl⟩
  · have HG := Lib.hid (show goodC ⟨room, user, til, rights⟩ = true by simp [goodC, HR.out, HU.out, h1, h2, h3, h4])
    go_wp2; go_ret; exact Ret.mk (.refl I) HS.out.drop ⟨rfl, congrArg Value.bool HG.out.symm, rfl⟩
def Tab10 (I : Img) : Prop := ∀ (M : List Res) (w : World), St I M w → Lib.TabIs Tryd.prog w "internal/strconv.uint64pow10" .u64 Lib.pow10Tab
theorem Tab10.mono {I J : Img} (h : Tab10 I) (hl : I.le J) : Tab10 J := fun M w hs => h M w (hs.less hl)
def textC (c : Cl) : List UInt8 := ls c.room ++ 46 :: (ls c.user ++ 46 :: (Lib.itoa c.til ++ 46 :: Lib.itoa c.rights))
theorem goodC_iff (c : Cl) : goodC c = true ↔ wordB c.room 1 32 = true ∧ wordB c.user 1 32 = true ∧ 0 ≤ c.til ∧ c.til ≤ 4611686018427387904 ∧ 0 ≤ c.rights ∧ c.rights ≤ 7 := by
  simp [goodC]
theorem word_size {s : ByteArray} {lo hi : Int} (h : wordB s lo hi = true) : (s.size : Int) ≤ hi ∧ lo ≤ s.size := by
  simp [wordB] at h
  exact ⟨h.2, h.1.2⟩
theorem clKeep {w : World} {b : Nat} {c : Cl} (h : Blk w b 30 (clC c)) : w.cell? ⟨b, 0, none⟩ = some (.string c.room) ∧ w.cell? ⟨b, 1, none⟩ = some (.string c.user) ∧ w.cell? ⟨b, 2, none⟩ = some (.int .i64 c.til) ∧ w.cell? ⟨b, 3, none⟩ = some (.int .i64 c.rights) := ⟨h.cell 0, h.cell 1, h.cell 2, h.cell 3⟩
theorem dec_len : ∀ (k n : Nat), 0 < k → n < 10 ^ k → (Lib.decDigits n).length ≤ k
  | 0, _, h, _ => absurd h (by decide)
  | k + 1, n, _, hn => by
    rw [Lib.decDigits]
    split
    · simp
    · rename_i h10
      have hk : 0 < k := by
        rcases Nat.eq_zero_or_pos k with rfl | h
        · simp at hn; omega
        · exact h
      have := dec_len k (n / 10) hk (by rw [Nat.pow_succ] at hn; omega)
      rw [List.length_append]
      simp only [List.length_singleton]
      omega
set_option maxRecDepth 8000 in
set_option maxHeartbeats 1000000 in
theorem textP (I : Img) (M : List Res) (w : World) (c : Cl) (hst : St I M w) (ht : Tab10 I) (hg : goodC c = true) : Calls Tryd.prog 19 #[.agg (clC c)] w (Ret I (fun v J M' => I = J ∧ v = .string (bsA (textC c)) ∧ M' = M)) := by
  obtain ⟨g1, g2, g3, g4, g5, g6⟩ := (goodC_iff c).1 hg
  have z1 := (word_size g1).1
  have z2 := (word_size g2).1
  obtain ⟨room, user, til, rights⟩ := c
  simp only at g3 g4 g5 g6 z1 z2
  have hs := hst.alloc 30 (clC ⟨room, user, til, rights⟩)
  have HT := Lib.hid ht
  clear hst ht hg g1 g2
  go_enter Tryd.func19, Tryd.ntmps19
  go_upto_region 1 with fail
  obtain ⟨b, hb⟩ : ∃ b, b = w.heap.size := ⟨_, rfl⟩
  rw [← hb] at hs
  simp only [clC]
  rw [← hb]
  change St I _ (w.alloc (.cells #[.string room, .string user, .int .i64 til, .int .i64 rights] 30)) at hs
  generalize World.alloc _ _ = W at hs ⊢
  clear hb
  replace hs := hs.drew
  have hm3 : -9223372036854775808 ≤ til := by omega
  have hm4 : til ≤ 9223372036854775807 := by omega
  have hr : Lib.itoa rights = Lib.decDigits rights.toNat := by unfold Lib.itoa; rw [if_neg (by omega)]
  have ht1 : Lib.itoa til = Lib.decDigits til.toNat := by unfold Lib.itoa; rw [if_neg (by omega)]
  have HE : Hid (textC ⟨room, user, til, rights⟩ = ls room ++ 46 :: (ls user ++ 46 :: (ls (bsA (Lib.itoa til)) ++ 46 :: ls (bsA (Lib.itoa rights))))) := rfl
  have hl1 : (bsA (Lib.itoa til)).size ≤ 19 := by rw [bsA_size, ht1]; exact dec_len 19 _ (by decide) (by omega)
  have hl2 : (bsA (Lib.itoa rights)).size ≤ 1 := by rw [bsA_size, hr]; exact dec_len 1 _ (by decide) (by omega)
  have HC2 := Lib.hid (show ∀ w, Calls Tryd.prog 33 #[.int .i64 rights] w fun e w' => e = .returned (.string (bsA (Lib.itoa rights))) ∧ w' = w from fun w => by
    have := Tryd.strconv_Itoa_small rights.toNat (by omega) w
    rw [show ((rights.toNat : Nat) : Int) = rights by omega] at this
    rw [hr]
    exact this)
  clear hr ht1
  have HC1 := Lib.hid (show ∀ (w : World) (M : List Res), St I M w → Calls Tryd.prog 32 #[.int .i64 til, .int .i64 10] w fun e w' => e = .returned (.string (bsA (Lib.itoa til))) ∧ Below w.heap.size w w' from fun w M h => (Tryd.strconv_FormatInt_10 til hm3 hm4 w (HT.out M w h)).mono (by
    rintro e w' ⟨rfl, k, os, rfl⟩
    exact ⟨rfl, Lib.below_grow _ _ (Nat.le_refl _) _ _⟩))
  generalize bsA (Lib.itoa til) = D1 at HC1 HE hl1
  generalize bsA (Lib.itoa rights) = D2 at HC2 HE hl2
  refine wp_region_held_drew (S := (fun w' => w'.cell? ⟨b, 0, none⟩ = some (.string room) ∧ w'.cell? ⟨b, 1, none⟩ = some (.string user) ∧ w'.cell? ⟨b, 2, none⟩ = some (.int .i64 til) ∧ w'.cell? ⟨b, 3, none⟩ = some (.int .i64 rights))) (by kernel_rfl) (by (try dsimp only); exact clKeep (show Blk _ b 30 (clC ⟨room, user, til, rights⟩) from hs.head)) (fun hHeld => ?_)
  refine wpAnyH_take (i := 0) (oi := _) (v := ?_) rfl (by kernel_rfl) (by kernel_rfl) (by kernel_rfl) (fun _ _ _ h => h) (Or.inl ⟨by rfl, ?_⟩) (by assumption) ?_
  rotate_left
  · (intro w hSw; (try dsimp only at hSw); go_simp; try with_reducible rfl)
  try simp only [Act.put, List.getElem_toArray, List.getElem_cons_zero, List.getElem_cons_succ, List.setIfInBounds_toArray, List.set_cons_zero, List.set_cons_succ]
  refine wpAnyH_take (i := 1) (oi := _) (v := ?_) rfl (by kernel_rfl) (by kernel_rfl) (by kernel_rfl) (fun _ _ _ h => h) (Or.inl ⟨by rfl, ?_⟩) (by assumption) ?_
  rotate_left
  · (intro w hSw; (try dsimp only at hSw); go_simp; try with_reducible rfl)
  try simp only [Act.put, List.getElem_toArray, List.getElem_cons_zero, List.getElem_cons_succ, List.setIfInBounds_toArray, List.set_cons_zero, List.set_cons_succ]
  refine wpAnyH_take (i := 2) (oi := _) (v := ?_) rfl (by kernel_rfl) (by kernel_rfl) (by kernel_rfl) (fun _ _ _ h => h) (Or.inl ⟨by rfl, ?_⟩) (by assumption) ?_
  rotate_left
  · (intro w hSw; (try dsimp only at hSw); go_simp; rw [if_neg (by omega)])
  try simp only [Act.put, List.getElem_toArray, List.getElem_cons_zero, List.getElem_cons_succ, List.setIfInBounds_toArray, List.set_cons_zero, List.set_cons_succ]
  refine wpAnyH_take (i := 3) (oi := _) (v := ?_) rfl (by kernel_rfl) (by kernel_rfl) (by kernel_rfl) (fun _ _ _ h => h) (Or.inl ⟨by rfl, ?_⟩) (by assumption) ?_
  rotate_left
  · (intro w hSw; (try dsimp only at hSw); go_simp; try with_reducible rfl)
  try simp only [Act.put, List.getElem_toArray, List.getElem_cons_zero, List.getElem_cons_succ, List.setIfInBounds_toArray, List.set_cons_zero, List.set_cons_succ]
  refine wpAnyH_take (i := 4) (oi := _) (v := ?_) rfl (by kernel_rfl) (by kernel_rfl) (by kernel_rfl) (fun _ _ _ h => h) (Or.inl ⟨by rfl, ?_⟩) (by assumption) ?_
  rotate_left
  · (intro w hSw; (try dsimp only at hSw); go_simp; try with_reducible rfl)
  try simp only [Act.put, List.getElem_toArray, List.getElem_cons_zero, List.getElem_cons_succ, List.setIfInBounds_toArray, List.set_cons_zero, List.set_cons_succ]
  refine wpAnyH_take (i := 5) (oi := _) (v := ?_) rfl (by kernel_rfl) (by kernel_rfl) (by kernel_rfl) (fun _ _ _ h => h) (Or.inl ⟨by rfl, ?_⟩) (by assumption) ?_
  rotate_left
  · (intro w hSw; (try dsimp only at hSw); go_simp; rw [if_neg (by omega)])
  try simp only [Act.put, List.getElem_toArray, List.getElem_cons_zero, List.getElem_cons_succ, List.setIfInBounds_toArray, List.set_cons_zero, List.set_cons_succ]
  refine wpAnyH_take (i := 6) (oi := _) (v := ?_) rfl (by kernel_rfl) (by kernel_rfl) (by kernel_rfl) (fun _ _ _ h => h) (Or.inl ⟨by rfl, ?_⟩) (by assumption) ?_
  rotate_left
  · (intro w hSw; (try dsimp only at hSw); go_simp; rw [if_neg (by omega)])
  try simp only [Act.put, List.getElem_toArray, List.getElem_cons_zero, List.getElem_cons_succ, List.setIfInBounds_toArray, List.set_cons_zero, List.set_cons_succ]
  refine wpAnyH_take (i := 7) (oi := _) (v := ?_) rfl (by kernel_rfl) (by kernel_rfl) (by kernel_rfl) (fun _ _ _ h => h) (Or.inl ⟨by rfl, ?_⟩) (by assumption) ?_
  rotate_left
  · (intro w hSw; (try dsimp only at hSw); go_simp; try with_reducible rfl)
  try simp only [Act.put, List.getElem_toArray, List.getElem_cons_zero, List.getElem_cons_succ, List.setIfInBounds_toArray, List.set_cons_zero, List.set_cons_succ]
  refine wpAnyH_take (i := 8) (oi := _) (v := ?_) rfl (by kernel_rfl) (by kernel_rfl) (by kernel_rfl) (fun _ _ _ h => h) (Or.inl ⟨by rfl, ?_⟩) (by assumption) ?_
  rotate_left
  · (intro w hSw; (try dsimp only at hSw); go_simp; try with_reducible rfl)
  try simp only [Act.put, List.getElem_toArray, List.getElem_cons_zero, List.getElem_cons_succ, List.setIfInBounds_toArray, List.set_cons_zero, List.set_cons_succ]
  refine wpAnyH_take (i := 12) (oi := _) (v := ?_) rfl (by kernel_rfl) (by kernel_rfl) (by kernel_rfl) (fun _ _ _ h => h) (Or.inl ⟨by rfl, ?_⟩) (by assumption) ?_
  rotate_left
  · (intro w hSw; (try dsimp only at hSw); go_simp; try with_reducible rfl)
  try simp only [Act.put, List.getElem_toArray, List.getElem_cons_zero, List.getElem_cons_succ, List.setIfInBounds_toArray, List.set_cons_zero, List.set_cons_succ]
  refine wpAnyH_take (i := 13) (oi := _) (v := ?_) rfl (by kernel_rfl) (by kernel_rfl) (by kernel_rfl) (fun _ _ _ h => h) (Or.inl ⟨by rfl, ?_⟩) (by assumption) ?_
  rotate_left
  · (intro w hSw; (try dsimp only at hSw); go_simp; try with_reducible rfl)
  try simp only [Act.put, List.getElem_toArray, List.getElem_cons_zero, List.getElem_cons_succ, List.setIfInBounds_toArray, List.set_cons_zero, List.set_cons_succ]
  refine wpAnyH_ready (rs := [9]) (by kernel_rfl) (by simp) ?_
  refine (AllReadyH.cons (o := _) rfl (fun K hK => ?_) AllReadyH.nil)
  go_simp
  refine (HC1.out _ _ hs).mono ?_
  rintro e w' ⟨rfl, hb⟩
  replace hs := hs.below hb
  clear hb
  try clear hHeld
  refine hK.out _ _ (by (try dsimp only); exact clKeep (show Blk _ b 30 (clC ⟨room, user, til, rights⟩) from hs.head)) (fun hHeld => ?_)
  clear hK K
  try simp only [Act.put, List.getElem_toArray, List.getElem_cons_zero, List.getElem_cons_succ, List.setIfInBounds_toArray, List.set_cons_zero, List.set_cons_succ]
  refine wpAnyH_take (i := 10) (oi := _) (v := ?_) rfl (by kernel_rfl) (by kernel_rfl) (by kernel_rfl) (fun _ _ _ h => h) (Or.inl ⟨by rfl, ?_⟩) (by assumption) ?_
  rotate_left
  · (intro w hSw; (try dsimp only at hSw); go_simp; rw [if_neg (by omega)])
  try simp only [Act.put, List.getElem_toArray, List.getElem_cons_zero, List.getElem_cons_succ, List.setIfInBounds_toArray, List.set_cons_zero, List.set_cons_succ]
  refine wpAnyH_take (i := 11) (oi := _) (v := ?_) rfl (by kernel_rfl) (by kernel_rfl) (by kernel_rfl) (fun _ _ _ h => h) (Or.inl ⟨by rfl, ?_⟩) (by assumption) ?_
  rotate_left
  · (intro w hSw; (try dsimp only at hSw); go_simp; rw [if_neg (by omega)])
  try simp only [Act.put, List.getElem_toArray, List.getElem_cons_zero, List.getElem_cons_succ, List.setIfInBounds_toArray, List.set_cons_zero, List.set_cons_succ]
  refine wpAnyH_ready (rs := [14]) (by kernel_rfl) (by simp) ?_
  refine (AllReadyH.cons (o := _) rfl (fun K hK => ?_) AllReadyH.nil)
  go_simp
  refine (HC2.out _).mono ?_
  rintro e w' ⟨rfl, rfl⟩
  try clear hHeld
  refine hK.out _ _ (by (try dsimp only); exact clKeep (show Blk _ b 30 (clC ⟨room, user, til, rights⟩) from hs.head)) (fun hHeld => ?_)
  clear hK K
  try simp only [Act.put, List.getElem_toArray, List.getElem_cons_zero, List.getElem_cons_succ, List.setIfInBounds_toArray, List.set_cons_zero, List.set_cons_succ]
  refine wpAnyH_take (i := 15) (oi := _) (v := ?_) rfl (by kernel_rfl) (by kernel_rfl) (by kernel_rfl) (fun _ _ _ h => h) (Or.inl ⟨by rfl, ?_⟩) (by assumption) ?_
  rotate_left
  · (intro w hSw; (try dsimp only at hSw); go_simp; rw [if_neg (by omega)])
  try simp only [Act.put, List.getElem_toArray, List.getElem_cons_zero, List.getElem_cons_succ, List.setIfInBounds_toArray, List.set_cons_zero, List.set_cons_succ]
  refine wpAnyH_take (i := 16) (oi := _) (v := ?_) rfl (by kernel_rfl) (by kernel_rfl) (by kernel_rfl) (fun _ _ _ h => h) (Or.inl ⟨by rfl, ?_⟩) (by assumption) ?_
  rotate_left
  · (intro w hSw; (try dsimp only at hSw); go_simp; try with_reducible rfl)
  try simp only [Act.put, List.getElem_toArray, List.getElem_cons_zero, List.getElem_cons_succ, List.setIfInBounds_toArray, List.set_cons_zero, List.set_cons_succ]
  refine wpAnyH_done (by kernel_rfl) ?_ _
  have HS := Lib.hid hs
  clear hs hHeld
  go_wp2
  go_ret
  refine Ret.mk (.refl I) HS.out.drop ⟨rfl, ?_, rfl⟩
  rw [HE.out]
  exact congrArg Value.string (ls_inj (by simp [app_ls]))
end Go.Proofs.YtakgdmcekhafoaaDoor
