/- rostrumlaw23.play: a call on both houses. -/
import Derived.Test.YtbaobonlolbnpaaInB
namespace Go.Proofs.Ytbaobonlolbnpaa
open Go.RowKit
set_option linter.unusedSimpArgs false

def stepS (h : Ho) (o : OpV) : Ho × Int × Int :=
  if o.kind = 1 then joinS h o.room o.user o.til o.rights
  else if o.kind = 2 then ((leaveS h o.n).1, 0, (leaveS h o.n).2)
  else if o.kind = 3 then publishS h o.n o.text o.m
  else if o.kind = 4 then ((unpubS h o.n).1, 0, (unpubS h o.n).2)
  else if o.kind = 5 then ((subscribeS h o.n o.m o.l).1, 0, (subscribeS h o.n o.m o.l).2)
  else if o.kind = 6 then ((unsubS h o.n o.m).1, 0, (unsubS h o.n o.m).2)
  else (h, 0, 0)
theorem Inv.step {h : Ho} (i : Inv h) (o : OpV) : Inv (stepS h o).1 := by
  unfold stepS
  split
  · exact i.join ..
  split
  · exact i.leave _
  split
  · exact i.publish ..
  split
  · exact i.unpub _
  split
  · exact i.subscribe ..
  split
  · exact i.unsub ..
  · exact i
theorem Sz.join {h : Ho} {k : Nat} (s : Sz h k) (room user : ByteArray) (til rights : Int) : Sz (joinS h room user til rights).1 (k + 1) := by
  have s1 := s.mono (Nat.le_succ k)
  unfold joinS
  split
  · exact s1
  split
  · exact s1
  split
  · exact s1
  · exact { s1 with ms := by have := s.ms; simp; omega, lm := by have := s.lm; show h.lm + 1 ≤ _; omega }
theorem Sz.leave {h : Ho} {k : Nat} (s : Sz h k) (id : Int) : Sz (leaveS h id).1 (k + 1) := by
  have s1 := s.mono (Nat.le_succ k)
  unfold leaveS
  split
  · exact s1
  · exact { s1 with ms := Nat.le_trans (List.length_filter_le _ _) s1.ms, ts := Nat.le_trans (List.length_filter_le _ _) s1.ts, ss := Nat.le_trans (List.length_filter_le _ _) s1.ss }
theorem Sz.unpub {h : Ho} {k : Nat} (s : Sz h k) (id : Int) : Sz (unpubS h id).1 (k + 1) := by
  have s1 := s.mono (Nat.le_succ k)
  unfold unpubS
  split
  · exact s1
  · exact { s1 with ts := Nat.le_trans (List.length_filter_le _ _) s1.ts, ss := Nat.le_trans (List.length_filter_le _ _) s1.ss }
theorem Sz.unsub {h : Ho} {k : Nat} (s : Sz h k) (id t : Int) : Sz (unsubS h id t).1 (k + 1) := by
  have s1 := s.mono (Nat.le_succ k)
  unfold unsubS
  split
  · exact s1
  · exact { s1 with ss := Nat.le_trans (List.length_filter_le _ _) s1.ss }
theorem Sz.publish {h : Ho} {k : Nat} (s : Sz h k) (id : Int) (mid : ByteArray) (kind : Int) : Sz (publishS h id mid kind).1 (k + 1) := by
  have s1 := s.mono (Nat.le_succ k)
  unfold publishS
  split
  · exact s1
  split
  · exact s1
  split
  · exact s1
  split
  · exact s1
  split
  · exact s1
  · exact { s1 with ts := by have := s.ts; simp; omega, li := by have := s.li; show h.li + 1 ≤ _; omega }
theorem Sz.subscribe {h : Ho} {k : Nat} (s : Sz h k) (id t l : Int) : Sz (subscribeS h id t l).1 (k + 1) := by
  have s1 := s.mono (Nat.le_succ k)
  unfold subscribeS
  split
  · split
    · exact s1
    split
    · exact s1
    split
    · exact s1
    split
    · exact { s1 with ss := by show (setL _ _ h.ss).length ≤ _; rw [setL_len]; exact s1.ss }
    split
    · exact s1
    · exact { s1 with ss := by have := s.ss; simp; omega }
  · exact s1
theorem Sz.step {h : Ho} {k : Nat} (s : Sz h k) (o : OpV) : Sz (stepS h o).1 (k + 1) := by
  have s1 := s.mono (Nat.le_succ k)
  unfold stepS
  split
  · exact s.join ..
  split
  · exact s.leave _
  split
  · exact s.publish ..
  split
  · exact s.unpub _
  split
  · exact s.subscribe ..
  split
  · exact s.unsub ..
  · exact s1
def OpSz (o : OpV) : Prop := o.text.size ≤ maxLen ∧ o.room.size ≤ maxLen ∧ o.user.size ≤ maxLen
theorem St.flip4 {I : Img} {M : List Res} {w : World} {a b c d e f g k : Res} (h : St I (a :: b :: c :: d :: e :: f :: g :: k :: M) w) : St I (e :: f :: g :: k :: a :: b :: c :: d :: M) w :=
  h.perm (List.Perm.append_right M (List.perm_append_comm (l₁ := [a, b, c, d]) (l₂ := [e, f, g, k])))
theorem St.dn8 {I : Img} {M : List Res} {w : World} {a b c d e f g k x : Res} (h : St I (x :: a :: b :: c :: d :: e :: f :: g :: k :: M) w) : St I (a :: b :: c :: d :: e :: f :: g :: k :: x :: M) w :=
  h.perm (List.perm_middle (l₁ := [a, b, c, d, e, f, g, k]) (a := x) (l₂ := M)).symm
theorem St.up8 {I : Img} {M : List Res} {w : World} {a b c d e f g k x : Res} (h : St I (a :: b :: c :: d :: e :: f :: g :: k :: x :: M) w) : St I (x :: a :: b :: c :: d :: e :: f :: g :: k :: M) w :=
  h.perm (List.perm_middle (l₁ := [a, b, c, d, e, f, g, k]) (a := x) (l₂ := M))
def PlQ (p q : Nat) (M : List Res) (r1 r2 : Ho × Int × Int) (v : Value) (M' : List Res) : Prop :=
  v = .bool (r1.2.1 == r2.2.1 && r1.2.2 == r2.2.2) ∧ ∃ vM vT vS uM uT uS, M' = hou p r1.1 vM vT vS (houR q r2.1 uM uT uS M)
theorem kOp {w : World} {b : Nat} {o : OpV} (h : Blk w b 32 (opC o)) : w.cell? ⟨b, 1, none⟩ = some (.int .i64 o.n) ∧ w.cell? ⟨b, 2, none⟩ = some (.int .i64 o.m) ∧ w.cell? ⟨b, 3, none⟩ = some (.int .i64 o.l) := ⟨h.cell 1, h.cell 2, h.cell 3⟩
set_option maxRecDepth 8000 in
set_option maxHeartbeats 16000000 in
theorem playC (I : Img) (M : List Res) (w : World) (p q k : Nat) (h1 h2 : Ho) (vM vT vS uM uT uS : Value) (o : OpV) (hst : St I (hou p h1 vM vT vS (houR q h2 uM uT uS M)) w) (i1 : Inv h1) (i2 : Inv h2) (s1 : Sz h1 k) (s2 : Sz h2 k) (hk : k ≤ 1000000) (ho : OpSz o) :
    Calls Try.prog 10 #[.pointer (some ⟨p, 0, none⟩), .pointer (some ⟨q, 0, none⟩), .agg (opC o)] w (Ret I (fun v J M' => I = J ∧ PlQ p q M (stepS h1 o) (stepS h2 o) v M')) := by
  obtain ⟨kd, nn, mm, ll, text, room, user, til, rights⟩ := o
  have hst1 := (hst.alloc 32 (opC ⟨kd, nn, mm, ll, text, room, user, til, rights⟩)).dn8
  obtain ⟨b, hb⟩ : ∃ b, b = w.heap.size := ⟨_, rfl⟩
  have HS := Lib.hid hst1
  obtain ⟨hc, hf, hlt⟩ := Blk.all (hst1.at 8 rfl)
  have hm1 := Nat.le_trans s1.ms hk
  have ht1 := Nat.le_trans s1.ts hk
  have hs1 := Nat.le_trans s1.ss hk
  have hm2 := Nat.le_trans s2.ms hk
  have ht2 := Nat.le_trans s2.ts hk
  have hs2 := Nat.le_trans s2.ss hk
  have hlm1 : 0 ≤ h1.lm ∧ h1.lm ≤ 1000000 := ⟨i1.lm0, by have := s1.lm; omega⟩
  have hlm2 : 0 ≤ h2.lm ∧ h2.lm ≤ 1000000 := ⟨i2.lm0, by have := s2.lm; omega⟩
  have hli1 : 0 ≤ h1.li ∧ h1.li ≤ 1000000 := ⟨i1.li0, by have := s1.li; omega⟩
  have hli2 : 0 ≤ h2.li ∧ h2.li ≤ 1000000 := ⟨i2.li0, by have := s2.li; omega⟩
  clear hst hst1
  go_enter Try.func10, Try.ntmps10
  by_cases hk1 : kd = 1
  · subst hk1
    have HE1 := Lib.hid (show stepS h1 ⟨1, nn, mm, ll, text, room, user, til, rights⟩ = joinS h1 room user til rights from rfl)
    have HE2 := Lib.hid (show stepS h2 ⟨1, nn, mm, ll, text, room, user, til, rights⟩ = joinS h2 room user til rights from rfl)
    obtain ⟨r1, hr1⟩ : ∃ r, r = joinS h1 room user til rights := ⟨_, rfl⟩
    obtain ⟨r2, hr2⟩ : ∃ r, r = joinS h2 room user til rights := ⟨_, rfl⟩
    rw [← hr1] at HE1
    rw [← hr2] at HE2
    have HR1 := Lib.hid hr1
    have HR2 := Lib.hid hr2
    clear hr1 hr2
    cases hq : (r1.2.1 == r2.2.1)
    all_goals
      go_wp2_with (first | (go_at_call 23; refine (claimsC I _ _ room user til rights HS.out).mono ?_; rintro e w2 ⟨_, _, _, rfl, _, hs9, rfl, rfl, rfl⟩; replace HS := Lib.hid hs9; clear hs9; clear hc hf hlt; obtain ⟨hc, hf, hlt⟩ := Blk.all (HS.out.at 8 rfl)) | (go_at_call 17; refine (joinC I _ _ p h1 _ _ _ room user til rights HS.out hm1 hlm1 ho.2.1 ho.2.2 i1.rsz).mono ?_; rw [← HR1.out]; rintro e w2 ⟨_, _, _, rfl, _, hs9, rfl, rfl, vM2, rfl⟩; replace HS := Lib.hid hs9; clear hs9; clear hc hf hlt; obtain ⟨hc, hf, hlt⟩ := Blk.all (HS.out.at 8 rfl)) | (go_at_call 28; refine (joinR I _ _ q h2 _ _ _ room user til rights HS.out.flip4 hm2 hlm2 ho.2.1 ho.2.2 (i2.c8 room) i2.d4).mono ?_; rw [← HR2.out]; rintro e w2 ⟨_, _, _, rfl, _, hs9, rfl, rfl, uM2, rfl⟩; replace HS := Lib.hid hs9.flip4; clear hs9; clear hc hf hlt; obtain ⟨hc, hf, hlt⟩ := Blk.all (HS.out.at 8 rfl)))
      go_returns
      refine Ret.mk (.refl I) HS.out.up8.drop ⟨rfl, ?_⟩
      rw [HE1.out, HE2.out]
      exact ⟨by rw [hq]; rfl, _, _, _, _, _, _, rfl⟩
  by_cases hk3 : kd = 3
  · subst hk3
    have HE1 := Lib.hid (show stepS h1 ⟨3, nn, mm, ll, text, room, user, til, rights⟩ = publishS h1 nn text mm from rfl)
    have HE2 := Lib.hid (show stepS h2 ⟨3, nn, mm, ll, text, room, user, til, rights⟩ = publishS h2 nn text mm from rfl)
    obtain ⟨r1, hr1⟩ : ∃ r, r = publishS h1 nn text mm := ⟨_, rfl⟩
    obtain ⟨r2, hr2⟩ : ∃ r, r = publishS h2 nn text mm := ⟨_, rfl⟩
    rw [← hr1] at HE1
    rw [← hr2] at HE2
    have HR1 := Lib.hid hr1
    have HR2 := Lib.hid hr2
    clear hr1 hr2
    cases hq : (r1.2.1 == r2.2.1)
    all_goals
      go_wp2_with (first | (go_at_call 24; refine (publishC I _ _ p h1 _ _ _ nn text mm HS.out hm1 ht1 hli1 ho.1 i1.rig i1.tm0).mono ?_; rw [← HR1.out]; rintro e w2 ⟨_, _, _, rfl, _, hs9, rfl, rfl, vT2, rfl⟩; replace HS := Lib.hid hs9; clear hs9; clear hc hf hlt; obtain ⟨hc, hf, hlt⟩ := Blk.all (HS.out.at 8 rfl)) | (go_at_call 30; refine (publishR I _ _ q h2 _ _ _ nn text mm HS.out.flip4 hm2 ht2 hli2 ho.1 i2.rig i2.tm0 i2.t8).mono ?_; rw [← HR2.out]; rintro e w2 ⟨_, _, _, rfl, _, hs9, rfl, rfl, uT2, rfl⟩; replace HS := Lib.hid hs9.flip4; clear hs9; clear hc hf hlt; obtain ⟨hc, hf, hlt⟩ := Blk.all (HS.out.at 8 rfl)))
      go_returns
      refine Ret.mk (.refl I) HS.out.up8.drop ⟨rfl, ?_⟩
      rw [HE1.out, HE2.out]
      exact ⟨by rw [hq]; rfl, _, _, _, _, _, _, rfl⟩
  by_cases hk2 : kd = 2
  · subst hk2
    have HE1 := Lib.hid (show stepS h1 ⟨2, nn, mm, ll, text, room, user, til, rights⟩ = ((leaveS h1 nn).1, 0, (leaveS h1 nn).2) from rfl)
    have HE2 := Lib.hid (show stepS h2 ⟨2, nn, mm, ll, text, room, user, til, rights⟩ = ((leaveS h2 nn).1, 0, (leaveS h2 nn).2) from rfl)
    obtain ⟨r1, hr1⟩ : ∃ r, r = leaveS h1 nn := ⟨_, rfl⟩
    obtain ⟨r2, hr2⟩ : ∃ r, r = leaveS h2 nn := ⟨_, rfl⟩
    rw [← hr1] at HE1
    rw [← hr2] at HE2
    have HR1 := Lib.hid hr1
    have HR2 := Lib.hid hr2
    clear hr1 hr2
    go_upto_region 8 with fail
    have hs := HS.out.drew
    clear HS hc hf hlt hb
    refine wp_region_held_drew (S := (fun w' => w'.cell? ⟨w.heap.size, 1, none⟩ = some (.int .i64 nn) ∧ w'.cell? ⟨w.heap.size, 2, none⟩ = some (.int .i64 mm) ∧ w'.cell? ⟨w.heap.size, 3, none⟩ = some (.int .i64 ll))) (by kernel_rfl) (by (try dsimp only); exact kOp (hs.at 8 rfl)) (fun hHeld => ?_)
    generalize World.drew _ = W at hs hHeld ⊢
    refine wpAnyH_take (i := 0) (oi := _) (v := ?_) rfl (by kernel_rfl) (by kernel_rfl) (by kernel_rfl) (fun _ _ _ h => h) (Or.inl ⟨by rfl, ?_⟩) (by assumption) ?_
    rotate_left
    · (intro w hSw; (try dsimp only at hSw); go_simp; try with_reducible rfl)
    try simp only [Act.put, List.getElem_toArray, List.getElem_cons_zero, List.getElem_cons_succ, List.setIfInBounds_toArray, List.set_cons_zero, List.set_cons_succ]
    refine wpAnyH_take (i := 1) (oi := _) (v := ?_) rfl (by kernel_rfl) (by kernel_rfl) (by kernel_rfl) (fun _ _ _ h => h) (Or.inl ⟨by rfl, ?_⟩) (by assumption) ?_
    rotate_left
    · (intro w hSw; (try dsimp only at hSw); go_simp; try with_reducible rfl)
    try simp only [Act.put, List.getElem_toArray, List.getElem_cons_zero, List.getElem_cons_succ, List.setIfInBounds_toArray, List.set_cons_zero, List.set_cons_succ]
    refine wpAnyH_take (i := 2) (oi := _) (v := ?_) rfl (by kernel_rfl) (by kernel_rfl) (by kernel_rfl) (fun _ _ _ h => h) (Or.inl ⟨by rfl, ?_⟩) (by assumption) ?_
    rotate_left
    · (intro w hSw; (try dsimp only at hSw); go_simp; try with_reducible rfl)
    try simp only [Act.put, List.getElem_toArray, List.getElem_cons_zero, List.getElem_cons_succ, List.setIfInBounds_toArray, List.set_cons_zero, List.set_cons_succ]
    refine wpAnyH_take (i := 4) (oi := _) (v := ?_) rfl (by kernel_rfl) (by kernel_rfl) (by kernel_rfl) (fun _ _ _ h => h) (Or.inl ⟨by rfl, ?_⟩) (by assumption) ?_
    rotate_left
    · (intro w hSw; (try dsimp only at hSw); go_simp; try with_reducible rfl)
    try simp only [Act.put, List.getElem_toArray, List.getElem_cons_zero, List.getElem_cons_succ, List.setIfInBounds_toArray, List.set_cons_zero, List.set_cons_succ]
    refine wpAnyH_take (i := 5) (oi := _) (v := ?_) rfl (by kernel_rfl) (by kernel_rfl) (by kernel_rfl) (fun _ _ _ h => h) (Or.inl ⟨by rfl, ?_⟩) (by assumption) ?_
    rotate_left
    · (intro w hSw; (try dsimp only at hSw); go_simp; try with_reducible rfl)
    try simp only [Act.put, List.getElem_toArray, List.getElem_cons_zero, List.getElem_cons_succ, List.setIfInBounds_toArray, List.set_cons_zero, List.set_cons_succ]
    refine wpAnyH_take (i := 6) (oi := _) (v := ?_) rfl (by kernel_rfl) (by kernel_rfl) (by kernel_rfl) (fun _ _ _ h => h) (Or.inl ⟨by rfl, ?_⟩) (by assumption) ?_
    rotate_left
    · (intro w hSw; (try dsimp only at hSw); go_simp; try with_reducible rfl)
    try simp only [Act.put, List.getElem_toArray, List.getElem_cons_zero, List.getElem_cons_succ, List.setIfInBounds_toArray, List.set_cons_zero, List.set_cons_succ]
    refine wpAnyH_ready (rs := [3]) (by kernel_rfl) (by simp) ?_
    refine (AllReadyH.cons (o := _) rfl (fun K hK => ?_) AllReadyH.nil)
    go_simp
    refine (leaveC I _ W p h1 _ _ _ nn hs hm1 ht1 hs1 i1.st0).mono ?_
    rw [← HR1.out]
    rintro e W ⟨_, _, _, rfl, _, hs9, rfl, rfl, _, _, _, rfl⟩
    replace hs := hs9
    clear hs9
    try clear hHeld
    refine hK.out _ _ (by (try dsimp only); exact kOp (hs.at 8 rfl)) (fun hHeld => ?_)
    clear hK K
    try simp only [Act.put, List.getElem_toArray, List.getElem_cons_zero, List.getElem_cons_succ, List.setIfInBounds_toArray, List.set_cons_zero, List.set_cons_succ]
    refine wpAnyH_ready (rs := [7]) (by kernel_rfl) (by simp) ?_
    refine (AllReadyH.cons (o := _) rfl (fun K hK => ?_) AllReadyH.nil)
    go_simp
    refine (leaveR I _ W q h2 _ _ _ nn hs.flip4 hm2 ht2 hs2 i2.tnd (nodup_filter_one (key := Mem.id) i2.mnd nn) i2.st0).mono ?_
    rw [← HR2.out]
    rintro e W ⟨_, _, _, rfl, _, hs9, rfl, rfl, _, _, _, rfl⟩
    replace hs := hs9.flip4
    clear hs9
    try clear hHeld
    refine hK.out _ _ (by (try dsimp only); exact kOp (hs.at 8 rfl)) (fun hHeld => ?_)
    clear hK K
    try simp only [Act.put, List.getElem_toArray, List.getElem_cons_zero, List.getElem_cons_succ, List.setIfInBounds_toArray, List.set_cons_zero, List.set_cons_succ]
    refine wpAnyH_take (i := 8) (oi := _) (v := ?_) rfl (by kernel_rfl) (by kernel_rfl) (by kernel_rfl) (fun _ _ _ h => h) (Or.inl ⟨by rfl, ?_⟩) (by assumption) ?_
    rotate_left
    · (intro w hSw; (try dsimp only at hSw); go_simp; try with_reducible rfl)
    try simp only [Act.put, List.getElem_toArray, List.getElem_cons_zero, List.getElem_cons_succ, List.setIfInBounds_toArray, List.set_cons_zero, List.set_cons_succ]
    refine wpAnyH_take (i := 9) (oi := _) (v := ?_) rfl (by kernel_rfl) (by kernel_rfl) (by kernel_rfl) (fun _ _ _ h => h) (Or.inl ⟨by rfl, ?_⟩) (by assumption) ?_
    rotate_left
    · (intro w hSw; (try dsimp only at hSw); go_simp; try with_reducible rfl)
    try simp only [Act.put, List.getElem_toArray, List.getElem_cons_zero, List.getElem_cons_succ, List.setIfInBounds_toArray, List.set_cons_zero, List.set_cons_succ]
    refine wpAnyH_done (by kernel_rfl) ?_ _
    have HS := Lib.hid hs
    clear hs hHeld
    go_wp2
    go_returns
    refine Ret.mk (.refl I) HS.out.up8.drop ⟨rfl, ?_⟩
    rw [HE1.out, HE2.out]
    exact ⟨rfl, _, _, _, _, _, _, rfl⟩
  by_cases hk4 : kd = 4
  · subst hk4
    have HE1 := Lib.hid (show stepS h1 ⟨4, nn, mm, ll, text, room, user, til, rights⟩ = ((unpubS h1 nn).1, 0, (unpubS h1 nn).2) from rfl)
    have HE2 := Lib.hid (show stepS h2 ⟨4, nn, mm, ll, text, room, user, til, rights⟩ = ((unpubS h2 nn).1, 0, (unpubS h2 nn).2) from rfl)
    obtain ⟨r1, hr1⟩ : ∃ r, r = unpubS h1 nn := ⟨_, rfl⟩
    obtain ⟨r2, hr2⟩ : ∃ r, r = unpubS h2 nn := ⟨_, rfl⟩
    rw [← hr1] at HE1
    rw [← hr2] at HE2
    have HR1 := Lib.hid hr1
    have HR2 := Lib.hid hr2
    clear hr1 hr2
    go_upto_region 13 with fail
    have hs := HS.out.drew
    clear HS hc hf hlt hb
    refine wp_region_held_drew (S := (fun w' => w'.cell? ⟨w.heap.size, 1, none⟩ = some (.int .i64 nn) ∧ w'.cell? ⟨w.heap.size, 2, none⟩ = some (.int .i64 mm) ∧ w'.cell? ⟨w.heap.size, 3, none⟩ = some (.int .i64 ll))) (by kernel_rfl) (by (try dsimp only); exact kOp (hs.at 8 rfl)) (fun hHeld => ?_)
    generalize World.drew _ = W at hs hHeld ⊢
    refine wpAnyH_take (i := 0) (oi := _) (v := ?_) rfl (by kernel_rfl) (by kernel_rfl) (by kernel_rfl) (fun _ _ _ h => h) (Or.inl ⟨by rfl, ?_⟩) (by assumption) ?_
    rotate_left
    · (intro w hSw; (try dsimp only at hSw); go_simp; try with_reducible rfl)
    try simp only [Act.put, List.getElem_toArray, List.getElem_cons_zero, List.getElem_cons_succ, List.setIfInBounds_toArray, List.set_cons_zero, List.set_cons_succ]
    refine wpAnyH_take (i := 1) (oi := _) (v := ?_) rfl (by kernel_rfl) (by kernel_rfl) (by kernel_rfl) (fun _ _ _ h => h) (Or.inl ⟨by rfl, ?_⟩) (by assumption) ?_
    rotate_left
    · (intro w hSw; (try dsimp only at hSw); go_simp; try with_reducible rfl)
    try simp only [Act.put, List.getElem_toArray, List.getElem_cons_zero, List.getElem_cons_succ, List.setIfInBounds_toArray, List.set_cons_zero, List.set_cons_succ]
    refine wpAnyH_take (i := 2) (oi := _) (v := ?_) rfl (by kernel_rfl) (by kernel_rfl) (by kernel_rfl) (fun _ _ _ h => h) (Or.inl ⟨by rfl, ?_⟩) (by assumption) ?_
    rotate_left
    · (intro w hSw; (try dsimp only at hSw); go_simp; try with_reducible rfl)
    try simp only [Act.put, List.getElem_toArray, List.getElem_cons_zero, List.getElem_cons_succ, List.setIfInBounds_toArray, List.set_cons_zero, List.set_cons_succ]
    refine wpAnyH_take (i := 4) (oi := _) (v := ?_) rfl (by kernel_rfl) (by kernel_rfl) (by kernel_rfl) (fun _ _ _ h => h) (Or.inl ⟨by rfl, ?_⟩) (by assumption) ?_
    rotate_left
    · (intro w hSw; (try dsimp only at hSw); go_simp; try with_reducible rfl)
    try simp only [Act.put, List.getElem_toArray, List.getElem_cons_zero, List.getElem_cons_succ, List.setIfInBounds_toArray, List.set_cons_zero, List.set_cons_succ]
    refine wpAnyH_take (i := 5) (oi := _) (v := ?_) rfl (by kernel_rfl) (by kernel_rfl) (by kernel_rfl) (fun _ _ _ h => h) (Or.inl ⟨by rfl, ?_⟩) (by assumption) ?_
    rotate_left
    · (intro w hSw; (try dsimp only at hSw); go_simp; try with_reducible rfl)
    try simp only [Act.put, List.getElem_toArray, List.getElem_cons_zero, List.getElem_cons_succ, List.setIfInBounds_toArray, List.set_cons_zero, List.set_cons_succ]
    refine wpAnyH_take (i := 6) (oi := _) (v := ?_) rfl (by kernel_rfl) (by kernel_rfl) (by kernel_rfl) (fun _ _ _ h => h) (Or.inl ⟨by rfl, ?_⟩) (by assumption) ?_
    rotate_left
    · (intro w hSw; (try dsimp only at hSw); go_simp; try with_reducible rfl)
    try simp only [Act.put, List.getElem_toArray, List.getElem_cons_zero, List.getElem_cons_succ, List.setIfInBounds_toArray, List.set_cons_zero, List.set_cons_succ]
    refine wpAnyH_ready (rs := [3]) (by kernel_rfl) (by simp) ?_
    refine (AllReadyH.cons (o := _) rfl (fun K hK => ?_) AllReadyH.nil)
    go_simp
    refine (unpublishC I _ W p h1 _ _ _ nn hs ht1 hs1).mono ?_
    rw [← HR1.out]
    rintro e W ⟨_, _, _, rfl, _, hs9, rfl, rfl, _, _, _, rfl⟩
    replace hs := hs9
    clear hs9
    try clear hHeld
    refine hK.out _ _ (by (try dsimp only); exact kOp (hs.at 8 rfl)) (fun hHeld => ?_)
    clear hK K
    try simp only [Act.put, List.getElem_toArray, List.getElem_cons_zero, List.getElem_cons_succ, List.setIfInBounds_toArray, List.set_cons_zero, List.set_cons_succ]
    refine wpAnyH_ready (rs := [7]) (by kernel_rfl) (by simp) ?_
    refine (AllReadyH.cons (o := _) rfl (fun K hK => ?_) AllReadyH.nil)
    go_simp
    refine (unpublishR I _ W q h2 _ _ _ nn hs.flip4 ht2 hs2 (nodup_filter_one (key := Trk.id) i2.tnd nn)).mono ?_
    rw [← HR2.out]
    rintro e W ⟨_, _, _, rfl, _, hs9, rfl, rfl, _, _, _, rfl⟩
    replace hs := hs9.flip4
    clear hs9
    try clear hHeld
    refine hK.out _ _ (by (try dsimp only); exact kOp (hs.at 8 rfl)) (fun hHeld => ?_)
    clear hK K
    try simp only [Act.put, List.getElem_toArray, List.getElem_cons_zero, List.getElem_cons_succ, List.setIfInBounds_toArray, List.set_cons_zero, List.set_cons_succ]
    refine wpAnyH_take (i := 8) (oi := _) (v := ?_) rfl (by kernel_rfl) (by kernel_rfl) (by kernel_rfl) (fun _ _ _ h => h) (Or.inl ⟨by rfl, ?_⟩) (by assumption) ?_
    rotate_left
    · (intro w hSw; (try dsimp only at hSw); go_simp; try with_reducible rfl)
    try simp only [Act.put, List.getElem_toArray, List.getElem_cons_zero, List.getElem_cons_succ, List.setIfInBounds_toArray, List.set_cons_zero, List.set_cons_succ]
    refine wpAnyH_take (i := 9) (oi := _) (v := ?_) rfl (by kernel_rfl) (by kernel_rfl) (by kernel_rfl) (fun _ _ _ h => h) (Or.inl ⟨by rfl, ?_⟩) (by assumption) ?_
    rotate_left
    · (intro w hSw; (try dsimp only at hSw); go_simp; try with_reducible rfl)
    try simp only [Act.put, List.getElem_toArray, List.getElem_cons_zero, List.getElem_cons_succ, List.setIfInBounds_toArray, List.set_cons_zero, List.set_cons_succ]
    refine wpAnyH_done (by kernel_rfl) ?_ _
    have HS := Lib.hid hs
    clear hs hHeld
    go_wp2
    go_returns
    refine Ret.mk (.refl I) HS.out.up8.drop ⟨rfl, ?_⟩
    rw [HE1.out, HE2.out]
    exact ⟨rfl, _, _, _, _, _, _, rfl⟩
  by_cases hk5 : kd = 5
  · subst hk5
    have HE1 := Lib.hid (show stepS h1 ⟨5, nn, mm, ll, text, room, user, til, rights⟩ = ((subscribeS h1 nn mm ll).1, 0, (subscribeS h1 nn mm ll).2) from rfl)
    have HE2 := Lib.hid (show stepS h2 ⟨5, nn, mm, ll, text, room, user, til, rights⟩ = ((subscribeS h2 nn mm ll).1, 0, (subscribeS h2 nn mm ll).2) from rfl)
    obtain ⟨r1, hr1⟩ : ∃ r, r = subscribeS h1 nn mm ll := ⟨_, rfl⟩
    obtain ⟨r2, hr2⟩ : ∃ r, r = subscribeS h2 nn mm ll := ⟨_, rfl⟩
    rw [← hr1] at HE1
    rw [← hr2] at HE2
    have HR1 := Lib.hid hr1
    have HR2 := Lib.hid hr2
    clear hr1 hr2
    go_upto_region 15 with fail
    have hs := HS.out.drew
    clear HS hc hf hlt hb
    refine wp_region_held_drew (S := (fun w' => w'.cell? ⟨w.heap.size, 1, none⟩ = some (.int .i64 nn) ∧ w'.cell? ⟨w.heap.size, 2, none⟩ = some (.int .i64 mm) ∧ w'.cell? ⟨w.heap.size, 3, none⟩ = some (.int .i64 ll))) (by kernel_rfl) (by (try dsimp only); exact kOp (hs.at 8 rfl)) (fun hHeld => ?_)
    generalize World.drew _ = W at hs hHeld ⊢
    refine wpAnyH_take (i := 0) (oi := _) (v := ?_) rfl (by kernel_rfl) (by kernel_rfl) (by kernel_rfl) (fun _ _ _ h => h) (Or.inl ⟨by rfl, ?_⟩) (by assumption) ?_
    rotate_left
    · (intro w hSw; (try dsimp only at hSw); go_simp; try with_reducible rfl)
    try simp only [Act.put, List.getElem_toArray, List.getElem_cons_zero, List.getElem_cons_succ, List.setIfInBounds_toArray, List.set_cons_zero, List.set_cons_succ]
    refine wpAnyH_take (i := 1) (oi := _) (v := ?_) rfl (by kernel_rfl) (by kernel_rfl) (by kernel_rfl) (fun _ _ _ h => h) (Or.inl ⟨by rfl, ?_⟩) (by assumption) ?_
    rotate_left
    · (intro w hSw; (try dsimp only at hSw); go_simp; try with_reducible rfl)
    try simp only [Act.put, List.getElem_toArray, List.getElem_cons_zero, List.getElem_cons_succ, List.setIfInBounds_toArray, List.set_cons_zero, List.set_cons_succ]
    refine wpAnyH_take (i := 2) (oi := _) (v := ?_) rfl (by kernel_rfl) (by kernel_rfl) (by kernel_rfl) (fun _ _ _ h => h) (Or.inl ⟨by rfl, ?_⟩) (by assumption) ?_
    rotate_left
    · (intro w hSw; (try dsimp only at hSw); go_simp; try with_reducible rfl)
    try simp only [Act.put, List.getElem_toArray, List.getElem_cons_zero, List.getElem_cons_succ, List.setIfInBounds_toArray, List.set_cons_zero, List.set_cons_succ]
    refine wpAnyH_take (i := 3) (oi := _) (v := ?_) rfl (by kernel_rfl) (by kernel_rfl) (by kernel_rfl) (fun _ _ _ h => h) (Or.inl ⟨by rfl, ?_⟩) (by assumption) ?_
    rotate_left
    · (intro w hSw; (try dsimp only at hSw); go_simp; try with_reducible rfl)
    try simp only [Act.put, List.getElem_toArray, List.getElem_cons_zero, List.getElem_cons_succ, List.setIfInBounds_toArray, List.set_cons_zero, List.set_cons_succ]
    refine wpAnyH_take (i := 4) (oi := _) (v := ?_) rfl (by kernel_rfl) (by kernel_rfl) (by kernel_rfl) (fun _ _ _ h => h) (Or.inl ⟨by rfl, ?_⟩) (by assumption) ?_
    rotate_left
    · (intro w hSw; (try dsimp only at hSw); go_simp; try with_reducible rfl)
    try simp only [Act.put, List.getElem_toArray, List.getElem_cons_zero, List.getElem_cons_succ, List.setIfInBounds_toArray, List.set_cons_zero, List.set_cons_succ]
    refine wpAnyH_take (i := 5) (oi := _) (v := ?_) rfl (by kernel_rfl) (by kernel_rfl) (by kernel_rfl) (fun _ _ _ h => h) (Or.inl ⟨by rfl, ?_⟩) (by assumption) ?_
    rotate_left
    · (intro w hSw; (try dsimp only at hSw); go_simp; try with_reducible rfl)
    try simp only [Act.put, List.getElem_toArray, List.getElem_cons_zero, List.getElem_cons_succ, List.setIfInBounds_toArray, List.set_cons_zero, List.set_cons_succ]
    refine wpAnyH_take (i := 6) (oi := _) (v := ?_) rfl (by kernel_rfl) (by kernel_rfl) (by kernel_rfl) (fun _ _ _ h => h) (Or.inl ⟨by rfl, ?_⟩) (by assumption) ?_
    rotate_left
    · (intro w hSw; (try dsimp only at hSw); go_simp; try with_reducible rfl)
    try simp only [Act.put, List.getElem_toArray, List.getElem_cons_zero, List.getElem_cons_succ, List.setIfInBounds_toArray, List.set_cons_zero, List.set_cons_succ]
    refine wpAnyH_take (i := 8) (oi := _) (v := ?_) rfl (by kernel_rfl) (by kernel_rfl) (by kernel_rfl) (fun _ _ _ h => h) (Or.inl ⟨by rfl, ?_⟩) (by assumption) ?_
    rotate_left
    · (intro w hSw; (try dsimp only at hSw); go_simp; try with_reducible rfl)
    try simp only [Act.put, List.getElem_toArray, List.getElem_cons_zero, List.getElem_cons_succ, List.setIfInBounds_toArray, List.set_cons_zero, List.set_cons_succ]
    refine wpAnyH_take (i := 9) (oi := _) (v := ?_) rfl (by kernel_rfl) (by kernel_rfl) (by kernel_rfl) (fun _ _ _ h => h) (Or.inl ⟨by rfl, ?_⟩) (by assumption) ?_
    rotate_left
    · (intro w hSw; (try dsimp only at hSw); go_simp; try with_reducible rfl)
    try simp only [Act.put, List.getElem_toArray, List.getElem_cons_zero, List.getElem_cons_succ, List.setIfInBounds_toArray, List.set_cons_zero, List.set_cons_succ]
    refine wpAnyH_take (i := 10) (oi := _) (v := ?_) rfl (by kernel_rfl) (by kernel_rfl) (by kernel_rfl) (fun _ _ _ h => h) (Or.inl ⟨by rfl, ?_⟩) (by assumption) ?_
    rotate_left
    · (intro w hSw; (try dsimp only at hSw); go_simp; try with_reducible rfl)
    try simp only [Act.put, List.getElem_toArray, List.getElem_cons_zero, List.getElem_cons_succ, List.setIfInBounds_toArray, List.set_cons_zero, List.set_cons_succ]
    refine wpAnyH_take (i := 11) (oi := _) (v := ?_) rfl (by kernel_rfl) (by kernel_rfl) (by kernel_rfl) (fun _ _ _ h => h) (Or.inl ⟨by rfl, ?_⟩) (by assumption) ?_
    rotate_left
    · (intro w hSw; (try dsimp only at hSw); go_simp; try with_reducible rfl)
    try simp only [Act.put, List.getElem_toArray, List.getElem_cons_zero, List.getElem_cons_succ, List.setIfInBounds_toArray, List.set_cons_zero, List.set_cons_succ]
    refine wpAnyH_take (i := 12) (oi := _) (v := ?_) rfl (by kernel_rfl) (by kernel_rfl) (by kernel_rfl) (fun _ _ _ h => h) (Or.inl ⟨by rfl, ?_⟩) (by assumption) ?_
    rotate_left
    · (intro w hSw; (try dsimp only at hSw); go_simp; try with_reducible rfl)
    try simp only [Act.put, List.getElem_toArray, List.getElem_cons_zero, List.getElem_cons_succ, List.setIfInBounds_toArray, List.set_cons_zero, List.set_cons_succ]
    refine wpAnyH_take (i := 13) (oi := _) (v := ?_) rfl (by kernel_rfl) (by kernel_rfl) (by kernel_rfl) (fun _ _ _ h => h) (Or.inl ⟨by rfl, ?_⟩) (by assumption) ?_
    rotate_left
    · (intro w hSw; (try dsimp only at hSw); go_simp; try with_reducible rfl)
    try simp only [Act.put, List.getElem_toArray, List.getElem_cons_zero, List.getElem_cons_succ, List.setIfInBounds_toArray, List.set_cons_zero, List.set_cons_succ]
    refine wpAnyH_take (i := 14) (oi := _) (v := ?_) rfl (by kernel_rfl) (by kernel_rfl) (by kernel_rfl) (fun _ _ _ h => h) (Or.inl ⟨by rfl, ?_⟩) (by assumption) ?_
    rotate_left
    · (intro w hSw; (try dsimp only at hSw); go_simp; try with_reducible rfl)
    try simp only [Act.put, List.getElem_toArray, List.getElem_cons_zero, List.getElem_cons_succ, List.setIfInBounds_toArray, List.set_cons_zero, List.set_cons_succ]
    refine wpAnyH_ready (rs := [7]) (by kernel_rfl) (by simp) ?_
    refine (AllReadyH.cons (o := _) rfl (fun K hK => ?_) AllReadyH.nil)
    go_simp
    refine (subscribeC I _ W p h1 _ _ _ nn mm ll hs hm1 ht1 hs1 i1.rig i1.tm0).mono ?_
    rw [← HR1.out]
    rintro e W ⟨_, _, _, rfl, _, hs9, rfl, rfl, _, _, _, rfl⟩
    replace hs := hs9
    clear hs9
    try clear hHeld
    refine hK.out _ _ (by (try dsimp only); exact kOp (hs.at 8 rfl)) (fun hHeld => ?_)
    clear hK K
    try simp only [Act.put, List.getElem_toArray, List.getElem_cons_zero, List.getElem_cons_succ, List.setIfInBounds_toArray, List.set_cons_zero, List.set_cons_succ]
    refine wpAnyH_ready (rs := [15]) (by kernel_rfl) (by simp) ?_
    refine (AllReadyH.cons (o := _) rfl (fun K hK => ?_) AllReadyH.nil)
    go_simp
    refine (subscribeR I _ W q h2 _ _ _ nn mm ll hs.flip4 hm2 ht2 hs2 i2.rig i2.tm0 (i2.s16 nn)).mono ?_
    rw [← HR2.out]
    rintro e W ⟨_, _, _, rfl, _, hs9, rfl, rfl, _, _, _, rfl⟩
    replace hs := hs9.flip4
    clear hs9
    try clear hHeld
    refine hK.out _ _ (by (try dsimp only); exact kOp (hs.at 8 rfl)) (fun hHeld => ?_)
    clear hK K
    try simp only [Act.put, List.getElem_toArray, List.getElem_cons_zero, List.getElem_cons_succ, List.setIfInBounds_toArray, List.set_cons_zero, List.set_cons_succ]
    refine wpAnyH_take (i := 16) (oi := _) (v := ?_) rfl (by kernel_rfl) (by kernel_rfl) (by kernel_rfl) (fun _ _ _ h => h) (Or.inl ⟨by rfl, ?_⟩) (by assumption) ?_
    rotate_left
    · (intro w hSw; (try dsimp only at hSw); go_simp; try with_reducible rfl)
    try simp only [Act.put, List.getElem_toArray, List.getElem_cons_zero, List.getElem_cons_succ, List.setIfInBounds_toArray, List.set_cons_zero, List.set_cons_succ]
    refine wpAnyH_take (i := 17) (oi := _) (v := ?_) rfl (by kernel_rfl) (by kernel_rfl) (by kernel_rfl) (fun _ _ _ h => h) (Or.inl ⟨by rfl, ?_⟩) (by assumption) ?_
    rotate_left
    · (intro w hSw; (try dsimp only at hSw); go_simp; try with_reducible rfl)
    try simp only [Act.put, List.getElem_toArray, List.getElem_cons_zero, List.getElem_cons_succ, List.setIfInBounds_toArray, List.set_cons_zero, List.set_cons_succ]
    refine wpAnyH_done (by kernel_rfl) ?_ _
    have HS := Lib.hid hs
    clear hs hHeld
    go_wp2
    go_returns
    refine Ret.mk (.refl I) HS.out.up8.drop ⟨rfl, ?_⟩
    rw [HE1.out, HE2.out]
    exact ⟨rfl, _, _, _, _, _, _, rfl⟩
  by_cases hk6 : kd = 6
  · subst hk6
    have HE1 := Lib.hid (show stepS h1 ⟨6, nn, mm, ll, text, room, user, til, rights⟩ = ((unsubS h1 nn mm).1, 0, (unsubS h1 nn mm).2) from rfl)
    have HE2 := Lib.hid (show stepS h2 ⟨6, nn, mm, ll, text, room, user, til, rights⟩ = ((unsubS h2 nn mm).1, 0, (unsubS h2 nn mm).2) from rfl)
    obtain ⟨r1, hr1⟩ : ∃ r, r = unsubS h1 nn mm := ⟨_, rfl⟩
    obtain ⟨r2, hr2⟩ : ∃ r, r = unsubS h2 nn mm := ⟨_, rfl⟩
    rw [← hr1] at HE1
    rw [← hr2] at HE2
    have HR1 := Lib.hid hr1
    have HR2 := Lib.hid hr2
    clear hr1 hr2
    go_upto_region 17 with fail
    have hs := HS.out.drew
    clear HS hc hf hlt hb
    refine wp_region_held_drew (S := (fun w' => w'.cell? ⟨w.heap.size, 1, none⟩ = some (.int .i64 nn) ∧ w'.cell? ⟨w.heap.size, 2, none⟩ = some (.int .i64 mm) ∧ w'.cell? ⟨w.heap.size, 3, none⟩ = some (.int .i64 ll))) (by kernel_rfl) (by (try dsimp only); exact kOp (hs.at 8 rfl)) (fun hHeld => ?_)
    generalize World.drew _ = W at hs hHeld ⊢
    refine wpAnyH_take (i := 0) (oi := _) (v := ?_) rfl (by kernel_rfl) (by kernel_rfl) (by kernel_rfl) (fun _ _ _ h => h) (Or.inl ⟨by rfl, ?_⟩) (by assumption) ?_
    rotate_left
    · (intro w hSw; (try dsimp only at hSw); go_simp; try with_reducible rfl)
    try simp only [Act.put, List.getElem_toArray, List.getElem_cons_zero, List.getElem_cons_succ, List.setIfInBounds_toArray, List.set_cons_zero, List.set_cons_succ]
    refine wpAnyH_take (i := 1) (oi := _) (v := ?_) rfl (by kernel_rfl) (by kernel_rfl) (by kernel_rfl) (fun _ _ _ h => h) (Or.inl ⟨by rfl, ?_⟩) (by assumption) ?_
    rotate_left
    · (intro w hSw; (try dsimp only at hSw); go_simp; try with_reducible rfl)
    try simp only [Act.put, List.getElem_toArray, List.getElem_cons_zero, List.getElem_cons_succ, List.setIfInBounds_toArray, List.set_cons_zero, List.set_cons_succ]
    refine wpAnyH_take (i := 2) (oi := _) (v := ?_) rfl (by kernel_rfl) (by kernel_rfl) (by kernel_rfl) (fun _ _ _ h => h) (Or.inl ⟨by rfl, ?_⟩) (by assumption) ?_
    rotate_left
    · (intro w hSw; (try dsimp only at hSw); go_simp; try with_reducible rfl)
    try simp only [Act.put, List.getElem_toArray, List.getElem_cons_zero, List.getElem_cons_succ, List.setIfInBounds_toArray, List.set_cons_zero, List.set_cons_succ]
    refine wpAnyH_take (i := 3) (oi := _) (v := ?_) rfl (by kernel_rfl) (by kernel_rfl) (by kernel_rfl) (fun _ _ _ h => h) (Or.inl ⟨by rfl, ?_⟩) (by assumption) ?_
    rotate_left
    · (intro w hSw; (try dsimp only at hSw); go_simp; try with_reducible rfl)
    try simp only [Act.put, List.getElem_toArray, List.getElem_cons_zero, List.getElem_cons_succ, List.setIfInBounds_toArray, List.set_cons_zero, List.set_cons_succ]
    refine wpAnyH_take (i := 4) (oi := _) (v := ?_) rfl (by kernel_rfl) (by kernel_rfl) (by kernel_rfl) (fun _ _ _ h => h) (Or.inl ⟨by rfl, ?_⟩) (by assumption) ?_
    rotate_left
    · (intro w hSw; (try dsimp only at hSw); go_simp; try with_reducible rfl)
    try simp only [Act.put, List.getElem_toArray, List.getElem_cons_zero, List.getElem_cons_succ, List.setIfInBounds_toArray, List.set_cons_zero, List.set_cons_succ]
    refine wpAnyH_take (i := 6) (oi := _) (v := ?_) rfl (by kernel_rfl) (by kernel_rfl) (by kernel_rfl) (fun _ _ _ h => h) (Or.inl ⟨by rfl, ?_⟩) (by assumption) ?_
    rotate_left
    · (intro w hSw; (try dsimp only at hSw); go_simp; try with_reducible rfl)
    try simp only [Act.put, List.getElem_toArray, List.getElem_cons_zero, List.getElem_cons_succ, List.setIfInBounds_toArray, List.set_cons_zero, List.set_cons_succ]
    refine wpAnyH_take (i := 7) (oi := _) (v := ?_) rfl (by kernel_rfl) (by kernel_rfl) (by kernel_rfl) (fun _ _ _ h => h) (Or.inl ⟨by rfl, ?_⟩) (by assumption) ?_
    rotate_left
    · (intro w hSw; (try dsimp only at hSw); go_simp; try with_reducible rfl)
    try simp only [Act.put, List.getElem_toArray, List.getElem_cons_zero, List.getElem_cons_succ, List.setIfInBounds_toArray, List.set_cons_zero, List.set_cons_succ]
    refine wpAnyH_take (i := 8) (oi := _) (v := ?_) rfl (by kernel_rfl) (by kernel_rfl) (by kernel_rfl) (fun _ _ _ h => h) (Or.inl ⟨by rfl, ?_⟩) (by assumption) ?_
    rotate_left
    · (intro w hSw; (try dsimp only at hSw); go_simp; try with_reducible rfl)
    try simp only [Act.put, List.getElem_toArray, List.getElem_cons_zero, List.getElem_cons_succ, List.setIfInBounds_toArray, List.set_cons_zero, List.set_cons_succ]
    refine wpAnyH_take (i := 9) (oi := _) (v := ?_) rfl (by kernel_rfl) (by kernel_rfl) (by kernel_rfl) (fun _ _ _ h => h) (Or.inl ⟨by rfl, ?_⟩) (by assumption) ?_
    rotate_left
    · (intro w hSw; (try dsimp only at hSw); go_simp; try with_reducible rfl)
    try simp only [Act.put, List.getElem_toArray, List.getElem_cons_zero, List.getElem_cons_succ, List.setIfInBounds_toArray, List.set_cons_zero, List.set_cons_succ]
    refine wpAnyH_take (i := 10) (oi := _) (v := ?_) rfl (by kernel_rfl) (by kernel_rfl) (by kernel_rfl) (fun _ _ _ h => h) (Or.inl ⟨by rfl, ?_⟩) (by assumption) ?_
    rotate_left
    · (intro w hSw; (try dsimp only at hSw); go_simp; try with_reducible rfl)
    try simp only [Act.put, List.getElem_toArray, List.getElem_cons_zero, List.getElem_cons_succ, List.setIfInBounds_toArray, List.set_cons_zero, List.set_cons_succ]
    refine wpAnyH_ready (rs := [5]) (by kernel_rfl) (by simp) ?_
    refine (AllReadyH.cons (o := _) rfl (fun K hK => ?_) AllReadyH.nil)
    go_simp
    refine (unsubC I _ W p h1 _ _ _ nn mm hs hs1).mono ?_
    rw [← HR1.out]
    rintro e W ⟨_, _, _, rfl, _, hs9, rfl, rfl, _, _, _, rfl⟩
    replace hs := hs9
    clear hs9
    try clear hHeld
    refine hK.out _ _ (by (try dsimp only); exact kOp (hs.at 8 rfl)) (fun hHeld => ?_)
    clear hK K
    try simp only [Act.put, List.getElem_toArray, List.getElem_cons_zero, List.getElem_cons_succ, List.setIfInBounds_toArray, List.set_cons_zero, List.set_cons_succ]
    refine wpAnyH_ready (rs := [11]) (by kernel_rfl) (by simp) ?_
    refine (AllReadyH.cons (o := _) rfl (fun K hK => ?_) AllReadyH.nil)
    go_simp
    refine (unsubR I _ W q h2 _ _ _ nn mm hs.flip4 hs2 (i2.sun nn mm)).mono ?_
    rw [← HR2.out]
    rintro e W ⟨_, _, _, rfl, _, hs9, rfl, rfl, _, _, _, rfl⟩
    replace hs := hs9.flip4
    clear hs9
    try clear hHeld
    refine hK.out _ _ (by (try dsimp only); exact kOp (hs.at 8 rfl)) (fun hHeld => ?_)
    clear hK K
    try simp only [Act.put, List.getElem_toArray, List.getElem_cons_zero, List.getElem_cons_succ, List.setIfInBounds_toArray, List.set_cons_zero, List.set_cons_succ]
    refine wpAnyH_take (i := 12) (oi := _) (v := ?_) rfl (by kernel_rfl) (by kernel_rfl) (by kernel_rfl) (fun _ _ _ h => h) (Or.inl ⟨by rfl, ?_⟩) (by assumption) ?_
    rotate_left
    · (intro w hSw; (try dsimp only at hSw); go_simp; try with_reducible rfl)
    try simp only [Act.put, List.getElem_toArray, List.getElem_cons_zero, List.getElem_cons_succ, List.setIfInBounds_toArray, List.set_cons_zero, List.set_cons_succ]
    refine wpAnyH_take (i := 13) (oi := _) (v := ?_) rfl (by kernel_rfl) (by kernel_rfl) (by kernel_rfl) (fun _ _ _ h => h) (Or.inl ⟨by rfl, ?_⟩) (by assumption) ?_
    rotate_left
    · (intro w hSw; (try dsimp only at hSw); go_simp; try with_reducible rfl)
    try simp only [Act.put, List.getElem_toArray, List.getElem_cons_zero, List.getElem_cons_succ, List.setIfInBounds_toArray, List.set_cons_zero, List.set_cons_succ]
    refine wpAnyH_done (by kernel_rfl) ?_ _
    have HS := Lib.hid hs
    clear hs hHeld
    go_wp2
    go_returns
    refine Ret.mk (.refl I) HS.out.up8.drop ⟨rfl, ?_⟩
    rw [HE1.out, HE2.out]
    exact ⟨rfl, _, _, _, _, _, _, rfl⟩
  have b1 : (kd == 1) = false := by simpa using hk1
  have b2 : (kd == 2) = false := by simpa using hk2
  have b3 : (kd == 3) = false := by simpa using hk3
  have b4 : (kd == 4) = false := by simpa using hk4
  have b5 : (kd == 5) = false := by simpa using hk5
  have b6 : (kd == 6) = false := by simpa using hk6
  have HE1 := Lib.hid (show ∀ h, stepS h ⟨kd, nn, mm, ll, text, room, user, til, rights⟩ = (h, 0, 0) by intro h; unfold stepS; rw [if_neg hk1, if_neg hk2, if_neg hk3, if_neg hk4, if_neg hk5, if_neg hk6])
  clear hk1 hk2 hk3 hk4 hk5 hk6
  go_wp2
  go_returns
  refine Ret.mk (.refl I) HS.out.up8.drop ⟨rfl, ?_⟩
  rw [HE1.out, HE1.out]
  exact ⟨rfl, _, _, _, _, _, _, rfl⟩
end Go.Proofs.Ytbaobonlolbnpaa
