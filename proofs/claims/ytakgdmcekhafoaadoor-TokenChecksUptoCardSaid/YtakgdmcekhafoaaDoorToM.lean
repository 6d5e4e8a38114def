/- token.Check of a made token. -/
import Derived.Test.YtakgdmcekhafoaaDoorToL
import Derived.Lib.AtoiErrMem
namespace Go.Proofs.YtakgdmcekhafoaaDoor
open Go.RowKit
set_option linter.unusedSimpArgs false

def zeroC : Array Value := #[.string ⟨#[]⟩, .string ⟨#[]⟩, .int .i64 0, .int .i64 0]
theorem res13 (w : World) (r : Nat) (a b x y : Value) (n : Int) (tmps : Array Value) (ht : tmps[6]? = some (.pointer (some ⟨r, 0, none⟩))) (h7 : tmps[7]? = some (.int .i64 n)) (h : Blk w r 30 #[a, b, x, y]) :
    (results Tryd.f13 tmps).run Tryd.prog w = .ok (.tuple #[.agg #[a, b, x, y], .int .i64 n]) w := by
  obtain ⟨c0, c1, c2, c3, _⟩ := Blk.four h
  simp [results, Tryd.results13, go_sem, ht, h7, c0, c1, c2, c3]
theorem tok_size {kb : List UInt8} {c : Cl} (h : goodC c = true) : (bsA (tokT kb c)).size ≤ 141 := by
  rw [bsA_size]
  unfold tokT
  rw [List.length_append, List.length_cons, hexT_len]
  have := textC_len h
  omega
set_option maxRecDepth 8000 in
set_option maxHeartbeats 4000000 in
theorem checkP (I : Img) (M : List Res) (w : World) (KA : Option Addr) (kc : Nat) (kb : List UInt8) (c : Cl) (now mx : Int) (hst : St I M w) (hk : Byts I KA kb) (hkl : kb.length ≤ 140737488351232) (ht : Tab10 I) (hm3 : I.cell? ⟨3, 0, none⟩ = some (.int .i64 mx)) (hz : ClSz c) (hg : goodC c = true) :
    Calls Tryd.prog 13 #[.slice KA kb.length kc, .string (bsA (tokT kb c)), .int .i64 now] w (Ret I (fun v _ M' => M' = M ∧ v = .tuple #[.agg (if c.til < now then zeroC else clC c), .int .i64 (if c.til < now then 5 else 0)])) := by
  have hs := hst.alloc 30 zeroC
  obtain ⟨r, hr⟩ : ∃ r, r = w.heap.size := ⟨_, rfl⟩
  rw [← hr] at hs
  have HG := Lib.hid hg
  have HK := Lib.hid (And.intro hk hkl)
  have HT := Lib.hid ht
  have HZ := Lib.hid hz
  have HM := Lib.hid hm3
  clear hst hk hkl ht hz hm3 hg
  go_enter Tryd.func13, Tryd.ntmps13
  go_upto_region 1 with fail
  rw [← hr]
  clear hr
  change St I _ (w.alloc (.cells #[.string ⟨#[]⟩, .string ⟨#[]⟩, .int .i64 0, .int .i64 0] 30)) at hs
  generalize World.alloc _ _ = W at hs ⊢
  have HC := Lib.hid (splitP I _ (bsA (tokT kb c)) mx W hs (Nat.le_trans (tok_size HG.out) (by decide)) HM.out _ (split_tok HG.out))
  have HTS := Lib.hid (tok_size (kb := kb) HG.out)
  have HTL := Lib.hid (show bsA (tokT kb c) = bsA (textC c) ++ ⟨#[46]⟩ ++ bsA (hexT kb c) from by
    apply ls_inj
    rw [app_ls, app_ls]
    show textC c ++ 46 :: hexT kb c = (textC c ++ [46]) ++ hexT kb c
    simp)
  obtain ⟨S, hS⟩ : ∃ S, S = bsA (tokT kb c) := ⟨_, rfl⟩
  rw [← hS] at HC HTS HTL ⊢
  clear hs hS
  go_wp2_with fail
  go_at_call 23
  refine HC.out.mono ?_
  rintro e w1 ⟨_, J, M1, rfl, hl, hs, hM1, g, rfl, hcell⟩
  subst hM1
  clear HC
  have k0 : J.cell? ⟨g, 0, none⟩ = some (.string c.room) := hcell 0 _ rfl
  have k1 : J.cell? ⟨g, 1, none⟩ = some (.string c.user) := hcell 1 _ rfl
  have k2 := hcell 2 _ rfl
  have k3 := hcell 3 _ rfl
  have k4 := hcell 4 _ rfl
  obtain ⟨D2, hD2⟩ : ∃ D, D = bsA (Lib.decDigits c.til.toNat) := ⟨_, rfl⟩
  obtain ⟨D3, hD3⟩ : ∃ D, D = bsA (Lib.decDigits c.rights.toNat) := ⟨_, rfl⟩
  obtain ⟨H, hH⟩ : ∃ D, D = bsA (hexT kb c) := ⟨_, rfl⟩
  have hHs : H.size = 40 := by rw [hH, bsA_size, hexT_len]
  rw [← hD2] at k2
  rw [← hD3] at k3
  rw [← hH] at k4
  have HD2 := Lib.hid hD2
  have HD3 := Lib.hid hD3
  have HH := Lib.hid hH
  have HL := Lib.hid hl
  have HKK := Lib.hid (And.intro k0 (And.intro k1 (And.intro k2 (And.intro k3 k4))))
  have HC := Lib.hid (show ∀ w, Calls Tryd.prog 24 #[.string H, .string ⟨#[48, 49, 50, 51, 52, 53, 54, 55, 56, 57, 97, 98, 99, 100, 101, 102]⟩] w fun e w' => e = .returned (.string ⟨#[]⟩) ∧ Below w.heap.size w w' from fun w => by rw [HH.out]; exact trimP kb c w)
  have y4 := hs.cell k4
  have HS := Lib.hid hs
  clear hs hcell k0 k1 k2 k3 k4 hD2 hD3 hH hl
  simp only [List.length_cons, List.length_nil]
  go_wp2_with fail
  go_at_call 24
  refine (HC.out _).mono ?_
  rintro e w2 ⟨rfl, hb⟩
  have hs := HS.out.below hb
  clear HC HS hb y4
  go_upto_region 4 with fail
  replace hs := hs.drew
  refine wp_region_held_drew (S := (fun w' => w'.cell? ⟨g, 0, none⟩ = some (.string c.room) ∧ w'.cell? ⟨g, 1, none⟩ = some (.string c.user))) (by kernel_rfl) (by (try dsimp only); exact ⟨hs.cell HKK.out.1, hs.cell HKK.out.2.1⟩) (fun hHeld => ?_)
  generalize World.drew _ = W6 at hs hHeld ⊢
  refine wpAnyH_take (i := 0) (oi := _) (v := ?_) rfl (by kernel_rfl) (by kernel_rfl) (by kernel_rfl) (fun _ _ _ h => h) (Or.inl ⟨by rfl, ?_⟩) (by assumption) ?_
  rotate_left
  · (intro w hSw; (try dsimp only at hSw); go_simp; try with_reducible rfl)
  try simp only [Act.put, List.getElem_toArray, List.getElem_cons_zero, List.getElem_cons_succ, List.setIfInBounds_toArray, List.set_cons_zero, List.set_cons_succ]
  refine wpAnyH_take (i := 1) (oi := _) (v := ?_) rfl (by kernel_rfl) (by kernel_rfl) (by kernel_rfl) (fun _ _ _ h => h) (Or.inl ⟨by rfl, ?_⟩) (by assumption) ?_
  rotate_left
  · (intro w hSw; (try dsimp only at hSw); go_simp; try with_reducible rfl)
  try simp only [Act.put, List.getElem_toArray, List.getElem_cons_zero, List.getElem_cons_succ, List.setIfInBounds_toArray, List.set_cons_zero, List.set_cons_succ]
  refine wpAnyH_take (i := 2) (oi := _) (v := ?_) rfl (by kernel_rfl) (by kernel_rfl) (by kernel_rfl) (fun _ _ _ h => h) (Or.inl ⟨by rfl, ?_⟩) (by assumption) ?_
  rotate_left
  · (intro w hSw; (try dsimp only at hSw); go_simp; try with_reducible rfl)
  try simp only [Act.put, List.getElem_toArray, List.getElem_cons_zero, List.getElem_cons_succ, List.setIfInBounds_toArray, List.set_cons_zero, List.set_cons_succ]
  refine wpAnyH_take (i := 3) (oi := _) (v := ?_) rfl (by kernel_rfl) (by kernel_rfl) (by kernel_rfl) (fun _ _ _ h => h) (Or.inl ⟨by rfl, ?_⟩) (by assumption) ?_
  rotate_left
  · (intro w hSw; (try dsimp only at hSw); go_simp; try with_reducible rfl)
  try simp only [Act.put, List.getElem_toArray, List.getElem_cons_zero, List.getElem_cons_succ, List.setIfInBounds_toArray, List.set_cons_zero, List.set_cons_succ]
  refine wpAnyH_take (i := 4) (oi := _) (v := ?_) rfl (by kernel_rfl) (by kernel_rfl) (by kernel_rfl) (fun _ _ _ h => h) (Or.inl ⟨by rfl, ?_⟩) (by assumption) ?_
  rotate_left
  · (intro w hSw; (try dsimp only at hSw); go_simp; try with_reducible rfl)
  try simp only [Act.put, List.getElem_toArray, List.getElem_cons_zero, List.getElem_cons_succ, List.setIfInBounds_toArray, List.set_cons_zero, List.set_cons_succ]
  refine wpAnyH_take (i := 5) (oi := _) (v := ?_) rfl (by kernel_rfl) (by kernel_rfl) (by kernel_rfl) (fun _ _ _ h => h) (Or.inl ⟨by rfl, ?_⟩) (by assumption) ?_
  rotate_left
  · (intro w hSw; (try dsimp only at hSw); go_simp; try with_reducible rfl)
  try simp only [Act.put, List.getElem_toArray, List.getElem_cons_zero, List.getElem_cons_succ, List.setIfInBounds_toArray, List.set_cons_zero, List.set_cons_succ]
  refine wpAnyH_take (i := 6) (oi := _) (v := ?_) rfl (by kernel_rfl) (by kernel_rfl) (by kernel_rfl) (fun _ _ _ h => h) (Or.inl ⟨by rfl, ?_⟩) (by assumption) ?_
  rotate_left
  · (intro w hSw; (try dsimp only at hSw); go_simp; try with_reducible rfl)
  try simp only [Act.put, List.getElem_toArray, List.getElem_cons_zero, List.getElem_cons_succ, List.setIfInBounds_toArray, List.set_cons_zero, List.set_cons_succ]
  refine wpAnyH_ready (rs := [7]) (by kernel_rfl) (by simp) ?_
  refine (AllReadyH.cons (o := _) rfl (fun K hK => ?_) AllReadyH.nil)
  go_simp
  replace hs := hs.alloc 30 #[.string ⟨#[]⟩, .string ⟨#[]⟩, .int .i64 0, .int .i64 0]
  generalize World.alloc _ _ = W at hs ⊢
  generalize Array.size (World.heap _) = q at hs ⊢
  try clear hHeld
  refine hK.out _ _ (by (try dsimp only); exact ⟨hs.cell HKK.out.1, hs.cell HKK.out.2.1⟩) (fun hHeld => ?_)
  clear hK K
  try simp only [Act.put, List.getElem_toArray, List.getElem_cons_zero, List.getElem_cons_succ, List.setIfInBounds_toArray, List.set_cons_zero, List.set_cons_succ]
  refine wpAnyH_ready (rs := [8]) (by kernel_rfl) (by simp) ?_
  refine (AllReadyH.cons (o := _) rfl (fun K hK => ?_) AllReadyH.nil)
  refine step_store_row (by rfl) 30 _ _ (by rfl) q #[.string c.room, .string c.user, .int .i64 0, .int .i64 0] (by rfl) (by rfl) 30 _ hs.head size30 rfl (by simp [Value.oneCell']) ?_
  replace hs := hs.setR #[.string c.room, .string c.user, .int .i64 0, .int .i64 0]
  generalize World.setRow _ _ _ = W at hs ⊢
  try clear hHeld
  refine hK.out _ _ (by (try dsimp only); exact ⟨hs.cell HKK.out.1, hs.cell HKK.out.2.1⟩) (fun hHeld => ?_)
  clear hK K
  try simp only [Act.put, List.getElem_toArray, List.getElem_cons_zero, List.getElem_cons_succ, List.setIfInBounds_toArray, List.set_cons_zero, List.set_cons_succ]
  refine wpAnyH_done (by kernel_rfl) ?_ _
  have HC := Lib.hid (show ∀ w', (∃ M', St J M' w') → Calls Tryd.prog 25 #[.string D2, .int .i64 10, .int .i64 64] w' fun e w2 => e = .returned (.tuple #[.int .i64 c.til, .nilIface]) ∧ Below w'.heap.size w' w2 from fun w' _ => by
    obtain ⟨g1, g2, g3, g4, g5, g6⟩ := (goodC_iff c).1 HG.out
    have h1 := NuS.parseInt_dec 64 c.til.toNat (.inr rfl) (show c.til.toNat < 2 ^ (64 - 1) by have e : (2 : Nat) ^ (64 - 1) = 9223372036854775808 := rfl; omega)
    have e2 : ((c.til.toNat : Nat) : Int) = c.til := by omega
    rw [e2] at h1
    have h3 : D2.size ≤ 9223372036854775806 := by
      rw [HD2.out, bsA_size]
      have := dec_len 19 c.til.toNat (by decide) (by omega)
      omega
    refine (Tryd.strconv_ParseInt_10_at64_ok D2 h3 c.til (by rw [HD2.out]; exact h1) w').mono ?_
    rintro e w2 ⟨rfl, rfl | ⟨t, rfl⟩⟩
    · exact ⟨rfl, Below.refl _ _⟩
    · exact ⟨rfl, Lib.bytesWorld_below w' 5 t⟩)
  have y2 := hs.cell HKK.out.2.2.1
  obtain ⟨z0, z1, z2, z3, f0, f1, f2, f3, -⟩ := Blk.four (show Blk _ q 30 #[.string c.room, .string c.user, .int .i64 0, .int .i64 0] from hs.head)
  have HS := Lib.hid hs
  clear hs hHeld
  go_wp2_with fail
  go_at_call 25
  refine (HC.out _ ⟨_, HS.out⟩).mono ?_
  rintro e w3 ⟨rfl, hb⟩
  have hs := HS.out.below hb
  clear HC HS hb y2 z0 z1 z2 z3 f0 f1 f2 f3
  obtain ⟨z0, z1, z2, z3, f0, f1, f2, f3, -⟩ := Blk.four (show Blk w3 q 30 #[.string c.room, .string c.user, .int .i64 0, .int .i64 0] from hs.head)
  have HS : Hid (St J (bk q 30 #[.string c.room, .string c.user, .int .i64 c.til, .int .i64 0] :: _) _) := Lib.hid (hs.set 2 (.int .i64 c.til))
  clear hs
  go_upto_region 6 with fail
  clear z0 z1 z2 z3 f0 f1 f2 f3
  generalize World.setCell _ _ _ = W3 at HS ⊢
  have HC := Lib.hid (show ∀ w', (∃ M', St J M' w') → Calls Tryd.prog 26 #[.string D3] w' fun e w2 => e = .returned (.tuple #[.int .i64 c.rights, .nilIface]) ∧ Below w'.heap.size w' w2 from fun w' _ => by
    obtain ⟨g1, g2, g3, g4, g5, g6⟩ := (goodC_iff c).1 HG.out
    have h1 := atoi_rights c.rights.toNat (by omega)
    have e2 : ((c.rights.toNat : Nat) : Int) = c.rights := by omega
    rw [e2] at h1
    have h3 : D3.size ≤ 9223372036854775806 := by
      rw [HD3.out, bsA_size]
      have := dec_len 19 c.rights.toNat (by decide) (by omega)
      omega
    refine (Tryd.strconv_Atoi_ok D3 h3 c.rights (by rw [HD3.out]; exact h1) w').mono ?_
    rintro e w2 ⟨rfl, rfl | ⟨t, rfl⟩⟩
    · exact ⟨rfl, Below.refl _ _⟩
    · exact ⟨rfl, Lib.bytesWorld_below w' 5 t⟩)
  have y3 := HS.out.cell HKK.out.2.2.2.1
  go_wp2_with fail
  go_at_call 26
  refine (HC.out _ ⟨_, HS.out⟩).mono ?_
  rintro e w4 ⟨rfl, hb⟩
  have hs := HS.out.below hb
  clear HC HS hb y3
  obtain ⟨z0, z1, z2, z3, f0, f1, f2, f3, -⟩ := Blk.four (show Blk w4 q 30 #[.string c.room, .string c.user, .int .i64 c.til, .int .i64 0] from hs.head)
  have HS : Hid (St J (bk q 30 (clC c) :: _) _) := Lib.hid (hs.set 3 (.int .i64 c.rights))
  clear hs
  go_upto_region 7 with fail
  clear z0 z1 z2 z3 f0 f1 f2 f3
  generalize World.setCell _ _ _ = W4 at HS ⊢
  obtain ⟨T, hT⟩ : ∃ T, T = bsA (textC c) := ⟨_, rfl⟩
  have hTs : T.size ≤ 100 := by rw [hT, bsA_size]; exact textC_len HG.out
  obtain rfl : S = T ++ ⟨#[46]⟩ ++ H := by rw [HTL.out, hT, HH.out]
  have HTT := Lib.hid hT
  have hs := HS.out.drew
  have hJ := Img.le.refl J
  have hkk4 := HKK.out.2.2.2.2
  have HK4 := Lib.hid hkk4
  have HHs := Lib.hid hHs
  clear hT HS hkk4 HTL HTS HKK
  refine wp_region_held_drew (S := (fun w' => (w'.cell? ⟨q, 0, none⟩ = some (.string c.room) ∧ w'.cell? ⟨q, 1, none⟩ = some (.string c.user) ∧ w'.cell? ⟨q, 2, none⟩ = some (.int .i64 c.til) ∧ w'.cell? ⟨q, 3, none⟩ = some (.int .i64 c.rights)) ∧ w'.cell? ⟨g, 4, none⟩ = some (.string H))) (by kernel_rfl) (by (try dsimp only); exact ⟨clKeep (show Blk _ q 30 (clC c) from hs.head), hs.cell (hJ.cell HK4.out)⟩) (fun hHeld => ?_)
  generalize World.drew _ = W6 at hs hHeld ⊢
  refine wpAnyH_take (i := 0) (oi := _) (v := ?_) rfl (by kernel_rfl) (by kernel_rfl) (by kernel_rfl) (fun _ _ _ h => h) (Or.inl ⟨by rfl, ?_⟩) (by assumption) ?_
  rotate_left
  · (intro w hSw; (try dsimp only at hSw); go_simp; try with_reducible rfl)
  try simp only [Act.put, List.getElem_toArray, List.getElem_cons_zero, List.getElem_cons_succ, List.setIfInBounds_toArray, List.set_cons_zero, List.set_cons_succ]
  refine wpAnyH_ready (rs := [1]) (by kernel_rfl) (by simp) ?_
  refine (AllReadyH.cons (o := _) rfl (fun K hK => ?_) AllReadyH.nil)
  have hc := goodP J _ W6 c hs HZ.out
  rw [HG.out] at hc
  have hc : Calls Tryd.prog 18 #[.agg #[.string c.room, .string c.user, .int .i64 c.til, .int .i64 c.rights]] W6 _ := hc
  go_simp
  refine hc.mono ?_
  clear hs hc
  rintro e w7 ⟨_, _, _, rfl, _, hs, rfl, rfl, rfl⟩
  try clear hHeld
  refine hK.out _ _ (by (try dsimp only); exact ⟨clKeep (show Blk _ q 30 (clC c) from hs.head), hs.cell (hJ.cell HK4.out)⟩) (fun hHeld => ?_)
  clear hK K
  try simp only [Act.put, List.getElem_toArray, List.getElem_cons_zero, List.getElem_cons_succ, List.setIfInBounds_toArray, List.set_cons_zero, List.set_cons_succ]
  refine wpAnyH_take (i := 2) (oi := _) (v := ?_) rfl (by kernel_rfl) (by kernel_rfl) (by kernel_rfl) (fun _ _ _ h => h) (Or.inl ⟨by rfl, ?_⟩) (by assumption) ?_
  rotate_left
  · (intro w hSw; (try dsimp only at hSw); go_simp; try with_reducible rfl)
  try simp only [Act.put, List.getElem_toArray, List.getElem_cons_zero, List.getElem_cons_succ, List.setIfInBounds_toArray, List.set_cons_zero, List.set_cons_succ]
  refine wpAnyH_take (i := 3) (oi := _) (v := ?_) rfl (by kernel_rfl) (by kernel_rfl) (by kernel_rfl) (fun _ _ _ h => h) (Or.inl ⟨by rfl, ?_⟩) (by assumption) ?_
  rotate_left
  · (intro w hSw; (try dsimp only at hSw); go_simp; try with_reducible rfl)
  try simp only [Act.put, List.getElem_toArray, List.getElem_cons_zero, List.getElem_cons_succ, List.setIfInBounds_toArray, List.set_cons_zero, List.set_cons_succ]
  refine wpAnyH_take (i := 4) (oi := _) (v := ?_) rfl (by kernel_rfl) (by kernel_rfl) (by kernel_rfl) (fun _ _ _ h => h) (Or.inl ⟨by rfl, ?_⟩) (by assumption) ?_
  rotate_left
  · (intro w hSw; (try dsimp only at hSw); go_simp; try with_reducible rfl)
  try simp only [Act.put, List.getElem_toArray, List.getElem_cons_zero, List.getElem_cons_succ, List.setIfInBounds_toArray, List.set_cons_zero, List.set_cons_succ]
  refine wpAnyH_take (i := 7) (oi := _) (v := ?_) rfl (by kernel_rfl) (by kernel_rfl) (by kernel_rfl) (fun _ _ _ h => h) (Or.inl ⟨by rfl, ?_⟩) (by assumption) ?_
  rotate_left
  · (intro w hSw; (try dsimp only at hSw); go_simp; try with_reducible rfl)
  try simp only [Act.put, List.getElem_toArray, List.getElem_cons_zero, List.getElem_cons_succ, List.setIfInBounds_toArray, List.set_cons_zero, List.set_cons_succ]
  refine wpAnyH_take (i := 8) (oi := _) (v := ?_) rfl (by kernel_rfl) (by kernel_rfl) (by kernel_rfl) (fun _ _ _ h => h) (Or.inl ⟨by rfl, ?_⟩) (by assumption) ?_
  rotate_left
  · (intro w hSw; (try dsimp only at hSw); go_simp; try with_reducible rfl)
  try simp only [Act.put, List.getElem_toArray, List.getElem_cons_zero, List.getElem_cons_succ, List.setIfInBounds_toArray, List.set_cons_zero, List.set_cons_succ]
  refine wpAnyH_take (i := 9) (oi := _) (v := ?_) rfl (by kernel_rfl) (by kernel_rfl) (by kernel_rfl) (fun _ _ _ h => h) (Or.inl ⟨by rfl, ?_⟩) (by assumption) ?_
  rotate_left
  · (intro w hSw; (try dsimp only at hSw); go_simp; try with_reducible rfl)
  try simp only [Act.put, List.getElem_toArray, List.getElem_cons_zero, List.getElem_cons_succ, List.setIfInBounds_toArray, List.set_cons_zero, List.set_cons_succ]
  refine wpAnyH_take (i := 11) (oi := _) (v := ?_) rfl (by kernel_rfl) (by kernel_rfl) (by kernel_rfl) (fun _ _ _ h => h) (Or.inl ⟨by rfl, ?_⟩) (by assumption) ?_
  rotate_left
  · (intro w hSw; (try dsimp only at hSw); go_simp; try with_reducible rfl)
  try simp only [Act.put, List.getElem_toArray, List.getElem_cons_zero, List.getElem_cons_succ, List.setIfInBounds_toArray, List.set_cons_zero, List.set_cons_succ]
  refine wpAnyH_ready (rs := [5]) (by kernel_rfl) (by simp) ?_
  refine (AllReadyH.cons (o := _) rfl (fun K hK => ?_) AllReadyH.nil)
  have hc := textP J _ w7 c hs (HT.out.mono HL.out) HG.out
  rw [← HTT.out] at hc
  have hc : Calls Tryd.prog 19 #[.agg #[.string c.room, .string c.user, .int .i64 c.til, .int .i64 c.rights]] w7 _ := hc
  go_simp
  refine hc.mono ?_
  clear hs hc
  rintro e w8 ⟨_, _, _, rfl, _, hs, rfl, rfl, rfl⟩
  try clear hHeld
  refine hK.out _ _ (by (try dsimp only); exact ⟨clKeep (show Blk _ q 30 (clC c) from hs.head), hs.cell (hJ.cell HK4.out)⟩) (fun hHeld => ?_)
  clear hK K
  try simp only [Act.put, List.getElem_toArray, List.getElem_cons_zero, List.getElem_cons_succ, List.setIfInBounds_toArray, List.set_cons_zero, List.set_cons_succ]
  refine wpAnyH_take (i := 6) (oi := _) (v := ?_) rfl (by kernel_rfl) (by kernel_rfl) (by kernel_rfl) (fun _ _ _ h => h) (Or.inl ⟨by rfl, ?_⟩) (by assumption) ?_
  rotate_left
  · (intro w hSw; (try dsimp only at hSw); go_simp; rw [if_neg (by omega)])
  try simp only [Act.put, List.getElem_toArray, List.getElem_cons_zero, List.getElem_cons_succ, List.setIfInBounds_toArray, List.set_cons_zero, List.set_cons_succ]
  refine wpAnyH_take (i := 10) (oi := _) (v := ?_) rfl (by kernel_rfl) (by kernel_rfl) (by kernel_rfl) (fun _ _ _ h => h) (Or.inl ⟨by rfl, ?_⟩) (by assumption) ?_
  rotate_left
  · (intro w hSw; (try dsimp only at hSw); go_simp; rw [if_neg (by omega)])
  try simp only [Act.put, List.getElem_toArray, List.getElem_cons_zero, List.getElem_cons_succ, List.setIfInBounds_toArray, List.set_cons_zero, List.set_cons_succ]
  refine wpAnyH_take (i := 12) (oi := _) (v := ?_) rfl (by kernel_rfl) (by kernel_rfl) (by kernel_rfl) (fun _ _ _ h => h) (Or.inl ⟨by rfl, ?_⟩) (by assumption) ?_
  rotate_left
  · (intro w hSw; (try dsimp only at hSw); go_simp; try with_reducible rfl)
  try simp only [Act.put, List.getElem_toArray, List.getElem_cons_zero, List.getElem_cons_succ, List.setIfInBounds_toArray, List.set_cons_zero, List.set_cons_succ]
  refine wpAnyH_take (i := 13) (oi := _) (v := ?_) rfl (by kernel_rfl) (by kernel_rfl) (by kernel_rfl) (fun _ _ _ h => h) (Or.inl ⟨by rfl, ?_⟩) (by assumption) ?_
  rotate_left
  · (intro w hSw; (try dsimp only at hSw); go_simp; try with_reducible rfl)
  try simp only [Act.put, List.getElem_toArray, List.getElem_cons_zero, List.getElem_cons_succ, List.setIfInBounds_toArray, List.set_cons_zero, List.set_cons_succ]
  refine wpAnyH_take (i := 14) (oi := _) (v := ?_) rfl (by kernel_rfl) (by kernel_rfl) (by kernel_rfl) (fun _ _ _ h => h) (Or.inl ⟨by rfl, ?_⟩) (by assumption) ?_
  rotate_left
  · (intro w hSw; (try dsimp only at hSw); go_simp; try with_reducible rfl)
  try simp only [Act.put, List.getElem_toArray, List.getElem_cons_zero, List.getElem_cons_succ, List.setIfInBounds_toArray, List.set_cons_zero, List.set_cons_succ]
  refine wpAnyH_done (by kernel_rfl) ?_ _
  have HS := Lib.hid hs
  clear hs hHeld
  have HSL := Lib.hid (show ∀ (N : List Res) (w' : World), St J N w' → Calls Tryd.prog 20 #[.slice KA kb.length kc, .string T] w' (Ret J (fun v _ M' => v = .string H ∧ M' = N)) from fun N w' h => by
    have h1 := sealP J N w' KA kc kb (bsA (textC c)) h (HK.out.1.mono HL.out) HK.out.2 (by rw [← HTT.out]; omega)
    rw [HTT.out, HH.out]
    exact h1)
  go_upto_region 9 with fail
  have hs := HS.out.drew
  clear HS
  refine wp_region_held_drew (S := (fun w' => (w'.cell? ⟨q, 0, none⟩ = some (.string c.room) ∧ w'.cell? ⟨q, 1, none⟩ = some (.string c.user) ∧ w'.cell? ⟨q, 2, none⟩ = some (.int .i64 c.til) ∧ w'.cell? ⟨q, 3, none⟩ = some (.int .i64 c.rights)) ∧ w'.cell? ⟨g, 4, none⟩ = some (.string H))) (by kernel_rfl) (by (try dsimp only); exact ⟨clKeep (show Blk _ q 30 (clC c) from hs.head), hs.cell (hJ.cell HK4.out)⟩) (fun hHeld => ?_)
  generalize World.drew _ = W6 at hs hHeld ⊢
  refine wpAnyH_take (i := 0) (oi := _) (v := ?_) rfl (by kernel_rfl) (by kernel_rfl) (by kernel_rfl) (fun _ _ _ h => h) (Or.inl ⟨by rfl, ?_⟩) (by assumption) ?_
  rotate_left
  · (intro w hSw; (try dsimp only at hSw); go_simp; try with_reducible rfl)
  try simp only [Act.put, List.getElem_toArray, List.getElem_cons_zero, List.getElem_cons_succ, List.setIfInBounds_toArray, List.set_cons_zero, List.set_cons_succ]
  refine wpAnyH_take (i := 1) (oi := _) (v := ?_) rfl (by kernel_rfl) (by kernel_rfl) (by kernel_rfl) (fun _ _ _ h => h) (Or.inl ⟨by rfl, ?_⟩) (by assumption) ?_
  rotate_left
  · (intro w hSw; (try dsimp only at hSw); go_simp; try with_reducible rfl)
  try simp only [Act.put, List.getElem_toArray, List.getElem_cons_zero, List.getElem_cons_succ, List.setIfInBounds_toArray, List.set_cons_zero, List.set_cons_succ]
  refine wpAnyH_take (i := 4) (oi := _) (v := ?_) rfl (by kernel_rfl) (by kernel_rfl) (by kernel_rfl) (fun _ _ _ h => h) (Or.inl ⟨by rfl, ?_⟩) (by assumption) ?_
  rotate_left
  · (intro w hSw; (try dsimp only at hSw); go_simp; try with_reducible rfl)
  try simp only [Act.put, List.getElem_toArray, List.getElem_cons_zero, List.getElem_cons_succ, List.setIfInBounds_toArray, List.set_cons_zero, List.set_cons_succ]
  refine wpAnyH_take (i := 5) (oi := _) (v := ?_) rfl (by kernel_rfl) (by kernel_rfl) (by kernel_rfl) (fun _ _ _ h => h) (Or.inl ⟨by rfl, ?_⟩) (by assumption) ?_
  rotate_left
  · (intro w hSw; (try dsimp only at hSw); go_simp; try with_reducible rfl)
  try simp only [Act.put, List.getElem_toArray, List.getElem_cons_zero, List.getElem_cons_succ, List.setIfInBounds_toArray, List.set_cons_zero, List.set_cons_succ]
  refine wpAnyH_take (i := 6) (oi := _) (v := ?_) rfl (by kernel_rfl) (by kernel_rfl) (by kernel_rfl) (fun _ _ _ h => h) (Or.inl ⟨by rfl, ?_⟩) (by assumption) ?_
  rotate_left
  · (intro w hSw; (try dsimp only at hSw); go_simp; try with_reducible rfl)
  try simp only [Act.put, List.getElem_toArray, List.getElem_cons_zero, List.getElem_cons_succ, List.setIfInBounds_toArray, List.set_cons_zero, List.set_cons_succ]
  refine wpAnyH_ready (rs := [2]) (by kernel_rfl) (by simp) ?_
  refine (AllReadyH.cons (o := _) rfl (fun K hK => ?_) AllReadyH.nil)
  have hc := textP J _ W6 c hs (HT.out.mono HL.out) HG.out
  rw [← HTT.out] at hc
  have hc : Calls Tryd.prog 19 #[.agg #[.string c.room, .string c.user, .int .i64 c.til, .int .i64 c.rights]] W6 _ := hc
  go_simp
  refine hc.mono ?_
  clear hs hc
  rintro e w8 ⟨_, _, _, rfl, _, hs, rfl, rfl, rfl⟩
  try clear hHeld
  refine hK.out _ _ (by (try dsimp only); exact ⟨clKeep (show Blk _ q 30 (clC c) from hs.head), hs.cell (hJ.cell HK4.out)⟩) (fun hHeld => ?_)
  clear hK K
  try simp only [Act.put, List.getElem_toArray, List.getElem_cons_zero, List.getElem_cons_succ, List.setIfInBounds_toArray, List.set_cons_zero, List.set_cons_succ]
  refine wpAnyH_ready (rs := [3]) (by kernel_rfl) (by simp) ?_
  refine (AllReadyH.cons (o := _) rfl (fun K hK => ?_) AllReadyH.nil)
  go_simp
  refine (HSL.out _ _ hs).mono ?_
  clear hs
  rintro e w9 ⟨_, J2, M9, rfl, hJ, hs, rfl, hM9⟩
  subst hM9
  try clear hHeld
  refine hK.out _ _ (by (try dsimp only); exact ⟨clKeep (show Blk _ q 30 (clC c) from hs.head), hs.cell (hJ.cell HK4.out)⟩) (fun hHeld => ?_)
  clear hK K
  try simp only [Act.put, List.getElem_toArray, List.getElem_cons_zero, List.getElem_cons_succ, List.setIfInBounds_toArray, List.set_cons_zero, List.set_cons_succ]
  refine wpAnyH_take (i := 7) (oi := _) (v := ?_) rfl (by kernel_rfl) (by kernel_rfl) (by kernel_rfl) (fun _ _ _ h => h) (Or.inl ⟨by rfl, ?_⟩) (by assumption) ?_
  rotate_left
  · (intro w hSw; (try dsimp only at hSw); go_simp; try with_reducible rfl)
  try simp only [Act.put, List.getElem_toArray, List.getElem_cons_zero, List.getElem_cons_succ, List.setIfInBounds_toArray, List.set_cons_zero, List.set_cons_succ]
  refine wpAnyH_take (i := 8) (oi := _) (v := ?_) rfl (by kernel_rfl) (by kernel_rfl) (by kernel_rfl) (fun _ _ _ h => h) (Or.inl ⟨by rfl, ?_⟩) (by assumption) ?_
  rotate_left
  · (intro w hSw; (try dsimp only at hSw); go_simp; try with_reducible rfl)
  try simp only [Act.put, List.getElem_toArray, List.getElem_cons_zero, List.getElem_cons_succ, List.setIfInBounds_toArray, List.set_cons_zero, List.set_cons_succ]
  refine wpAnyH_done (by kernel_rfl) ?_ _
  have HL2 := Lib.hid (HL.out.trans hJ)
  obtain ⟨z0, z1, z2, z3, -⟩ := Blk.four (show Blk _ q 30 #[.string c.room, .string c.user, .int .i64 c.til, .int .i64 c.rights] from hs.head)
  obtain ⟨y0, y1, y2, y3, f0, f1, f2, f3, -⟩ := Blk.four (show Blk _ r 30 #[.string ⟨#[]⟩, .string ⟨#[]⟩, .int .i64 0, .int .i64 0] from hs.at 1 rfl)
  by_cases hn : c.til < now
  · have HE := Lib.hid hn
    have HS0 := Lib.hid (show St J2 (bk q 30 (clC c) :: bk r 30 zeroC :: M) _ from (((hs.set1 0 (.string ⟨#[]⟩)).set1 1 (.string ⟨#[]⟩)).set1 2 (.int .i64 0)).set1 3 (.int .i64 0))
    clear hs hHeld hJ HSL
    go_wp2
    refine bodyPost_ret (res13 _ _ _ _ _ _ _ _ rfl rfl (HS0.out.at 1 rfl)) rfl ?_
    exact Ret.mk HL2.out HS0.out.drop.drop ⟨rfl, rfl⟩
  · have hn' : now ≤ c.til := by omega
    have HE := Lib.hid hn'
    have HS1 := Lib.hid (show St J2 (bk q 30 (clC c) :: bk r 30 (clC c) :: M) _ from (((hs.set1 0 (.string c.room)).set1 1 (.string c.user)).set1 2 (.int .i64 c.til)).set1 3 (.int .i64 c.rights))
    clear hs hHeld hJ HSL hn
    go_wp2
    refine bodyPost_ret (res13 _ _ _ _ _ _ _ _ rfl rfl (HS1.out.at 1 rfl)) rfl ?_
    exact Ret.mk HL2.out HS1.out.drop.drop ⟨rfl, rfl⟩
end Go.Proofs.YtakgdmcekhafoaaDoor
