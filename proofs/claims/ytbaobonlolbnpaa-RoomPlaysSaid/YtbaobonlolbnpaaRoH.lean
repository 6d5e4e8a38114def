/- room.House: New, Publish. -/
import Derived.Test.YtbaobonlolbnpaaRoG
import Derived.Test.YtbaobonlolbnpaaRoD
namespace Go.Proofs.Ytbaobonlolbnpaa
open Go.RowKit
set_option linter.unusedSimpArgs false

section
variable {I : Img} {M : List Res} {w : World} {a b c d x : Res}
theorem St.dn4 (h : St I (x :: a :: b :: c :: d :: M) w) : St I (a :: b :: c :: d :: x :: M) w := h.perm (List.perm_middle (l₁ := [a, b, c, d]) (a := x) (l₂ := M)).symm
theorem St.up4 (h : St I (a :: b :: c :: d :: x :: M) w) : St I (x :: a :: b :: c :: d :: M) w := h.perm (List.perm_middle (l₁ := [a, b, c, d]) (a := x) (l₂ := M))
theorem St.dn2 (h : St I (x :: a :: b :: M) w) : St I (a :: b :: x :: M) w := h.perm (List.perm_middle (l₁ := [a, b]) (a := x) (l₂ := M)).symm
theorem St.up2 (h : St I (a :: b :: x :: M) w) : St I (x :: a :: b :: M) w := h.perm (List.perm_middle (l₁ := [a, b]) (a := x) (l₂ := M))
theorem St.dn3 (h : St I (x :: a :: b :: c :: M) w) : St I (a :: b :: c :: x :: M) w := h.perm (List.perm_middle (l₁ := [a, b, c]) (a := x) (l₂ := M)).symm
theorem St.up3 (h : St I (a :: b :: c :: x :: M) w) : St I (x :: a :: b :: c :: M) w := h.perm (List.perm_middle (l₁ := [a, b, c]) (a := x) (l₂ := M))
end
def emptyHo : Ho := ⟨[], [], [], 0, 0⟩
def nilV : Value := .slice none 0 0
theorem newC (I : Img) (M : List Res) (w : World) (hst : St I M w) :
    Calls Try.prog 9 #[] w (Ret I (fun v J M' => I = J ∧ ∃ p, v = .pointer (some ⟨p, 0, none⟩) ∧ M' = hou p emptyHo (.slice none 0 0) (.slice none 0 0) (.slice none 0 0) M)) := by
  have hs := (((hst.alloc 66 #[.slice none 0 0, .slice none 0 0, .slice none 0 0, .int .i64 0, .int .i64 0]).nil (e := 49) (size := 3)).nil (e := 47) (size := 4)).nil (e := 73) (size := 5)
  have HS := Lib.hid hs
  clear hs hst
  go_enter Try.func9, Try.ntmps9
  go_wp2
  go_returns
  exact Ret.mk (.refl I) HS.out ⟨rfl, _, rfl, rfl⟩
def publishS (h : Ho) (id : Int) (mid : ByteArray) (kind : Int) : Ho × Int × Int :=
  match mem? h id with
  | none => (h, 0, 7)
  | some m =>
    if m.rights % 2 = 0 then (h, 0, 10)
    else if wordB mid 1 32 = false ∨ (kind ≠ 1 ∧ kind ≠ 2) then (h, 0, 1)
    else if h.ts.any (fun t => t.member == id && t.mid.toList == mid.toList) = true then (h, 0, 9)
    else if (tracksS h m.room).length = 8 then (h, 0, 6)
    else ({ h with ts := h.ts ++ [⟨h.li + 1, id, mid, kind⟩], li := h.li + 1 }, h.li + 1, 0)
theorem and1 {r : Int} (h : 0 ≤ r ∧ r ≤ 7) : (bits BinOp.and IntKind.i64 r 1 == 0) = decide (r % 2 = 0) := by
  have : r = 0 ∨ r = 1 ∨ r = 2 ∨ r = 3 ∨ r = 4 ∨ r = 5 ∨ r = 6 ∨ r = 7 := by omega
  rcases this with rfl | rfl | rfl | rfl | rfl | rfl | rfl | rfl <;> decide
theorem and2 {r : Int} (h : 0 ≤ r ∧ r ≤ 7) : (bits BinOp.and IntKind.i64 r 2 == 0) = decide (r / 2 % 2 = 0) := by
  have : r = 0 ∨ r = 1 ∨ r = 2 ∨ r = 3 ∨ r = 4 ∨ r = 5 ∨ r = 6 ∨ r = 7 := by omega
  rcases this with rfl | rfl | rfl | rfl | rfl | rfl | rfl | rfl <;> decide
theorem memAt.cells {I : Img} {M : List Res} {w : World} {p : Nat} {h : Ho} {vM vT vS : Value} {id : Int} {g o : Nat} {m : Mem} (hm : memAt h vM id (some ⟨g, o, none⟩)) (hf : mem? h id = some m) (hst : St I (hou p h vM vT vS M) w) : g < w.heap.size ∧ ∀ j, j < 5 → w.cell? ⟨g, o + j, none⟩ = (memC m)[j]? := by
  rcases hm.find hst with ⟨h1, _⟩ | ⟨m', g', o', h1, h2, h3, h4⟩
  · rw [hf] at h1; cases h1
  · rw [hf] at h1
    injection h1 with h1
    subst h1
    injection h2 with h2
    injection h2 with h2 h5
    subst h2; subst h5
    exact ⟨h3, h4⟩
theorem pKeep {w : World} {q q2 p : Nat} {i s x y z u v : Value} (h1 : Blk w q 3 #[i]) (h3 : Blk w q2 9 #[s]) (h2 : Blk w p 66 #[x, y, z, u, v]) : (w.cell? ⟨q, 0, none⟩ = some i ∧ w.cell? ⟨q2, 0, none⟩ = some s) ∧ w.cell? ⟨p, 4, none⟩ = some v := ⟨⟨h1.cell 0, h3.cell 0⟩, h2.cell 4⟩
def PQ (p : Nat) (vM vS : Value) (M : List Res) (r : Ho × Int × Int) (v : Value) (M' : List Res) : Prop := v = .tuple #[.int .i64 r.2.1, .int .i64 r.2.2] ∧ ∃ vT', M' = hou p r.1 vM vT' vS M
set_option maxRecDepth 8000 in
set_option maxHeartbeats 8000000 in
theorem publishC (I : Img) (M : List Res) (w : World) (p : Nat) (h : Ho) (vM vT vS : Value) (id : Int) (mid : ByteArray) (kind : Int) (hst : St I (hou p h vM vT vS M) w) (hl : h.ms.length ≤ 1000000) (hlt : h.ts.length ≤ 1000000) (hli : 0 ≤ h.li ∧ h.li ≤ 1000000) (hmd : mid.size ≤ maxLen) (hr : ∀ m ∈ h.ms, 0 ≤ m.rights ∧ m.rights ≤ 7) (hmem : ∀ t ∈ h.ts, mem? h t.member ≠ none) :
    Calls Try.prog 24 #[.pointer (some ⟨p, 0, none⟩), .int .i64 id, .string mid, .int .i64 kind] w (Ret I (fun v J M' => I = J ∧ PQ p vM vS M (publishS h id mid kind) v M')) := by
  have hs2 := ((hst.alloc 3 #[.int .i64 id]).dn4.alloc 9 #[.string mid]).dn4
  rw [show (w.alloc (Obj.cells #[.int .i64 id] 3)).heap.size = w.heap.size + 1 from World.size_alloc _ _] at hs2
  obtain ⟨y0, _, hb2⟩ := Blk.one (hs2.at 4 rfl)
  obtain ⟨z0, _, hb1⟩ := Blk.one (hs2.at 5 rfl)
  have hm := memberC I _ _ p h vM vT vS id hs2 (by omega)
  have H1 := Lib.hid hs2
  clear hst hs2
  go_enter Try.func24, Try.ntmps24
  go_wp2_with fail
  refine hm.mono ?_
  rintro e w' ⟨hw', r, rfl, hr2⟩
  subst w'
  rcases hr2.find H1.out with ⟨hf, rfl⟩ | ⟨m, g, o, hf, rfl, hg, hcell⟩
  · have HE := Lib.hid (show publishS h id mid kind = (h, 0, 7) by unfold publishS; rw [hf])
    clear hm hr2 hf
    go_wp2
    go_returns
    refine Ret.mk (.refl I) H1.out.up4.drop.up4.drop ⟨rfl, ?_⟩
    rw [HE.out]
    exact ⟨rfl, vT, rfl⟩
  have hmm : m ∈ h.ms := List.mem_of_find?_eq_some hf
  have hE : publishS h id mid kind = if m.rights % 2 = 0 then (h, 0, 10)
    else if wordB mid 1 32 = false ∨ (kind ≠ 1 ∧ kind ≠ 2) then (h, 0, 1)
    else if h.ts.any (fun t => t.member == id && t.mid.toList == mid.toList) = true then (h, 0, 9)
    else if (tracksS h m.room).length = 8 then (h, 0, 6)
    else ({ h with ts := h.ts ++ [⟨h.li + 1, id, mid, kind⟩], li := h.li + 1 }, h.li + 1, 0) := by
    unfold publishS
    rw [hf]
  have HE := Lib.hid hE
  have HA := Lib.hid (And.intro hr2 hf)
  have z4 := hcell 4 (by decide)
  have z1 := hcell 1 (by decide)
  simp only [memC, List.getElem?_cons_succ, List.getElem?_cons_zero] at z4 z1
  have hmr := hr m hmm
  obtain ⟨rg, hrg⟩ : ∃ rg, rg = m.rights := ⟨_, rfl⟩
  rw [← hrg] at hmr z4 HE
  clear hm hr2 hf hE hcell hmm hr hrg
  by_cases hri : rg % 2 = 0
  · have HE2 := Lib.hid (HE.out.trans (if_pos hri))
    have hba := (and1 hmr).trans (decide_eq_true hri)
    go_wp2
    go_returns
    refine Ret.mk (.refl I) H1.out.up4.drop.up4.drop ⟨rfl, ?_⟩
    rw [HE2.out]
    exact ⟨rfl, vT, rfl⟩
  have HE2 := Lib.hid (HE.out.trans (if_neg hri))
  have hba := (and1 hmr).trans (decide_eq_false hri)
  clear HE hri hmr
  go_upto_region 8 with fail
  clear hba z4
  go_cut [27] (fun v wx => v = .bool (!wordB mid 1 32 || (kind != 1 && kind != 2)) ∧ Hid (St I (hou p h vM vT vS (bk (w.heap.size + 1) 9 #[.string mid] :: bk w.heap.size 3 #[.int .i64 id] :: M)) wx))
  case first =>
    cases hw : wordB mid 1 32
    · go_wp2_with (go_at_call 42; refine (wordP mid 1 32 _ hmd).mono ?_; rw [hw]; rintro e w1 ⟨rfl, hb1⟩; have H2 := Lib.hid (H1.out.below hb1); clear hb1)
      go_meet
      exact ⟨by rw [hw]; rfl, H2⟩
    · by_cases hk1 : kind = 1
      · subst hk1
        go_wp2_with (go_at_call 42; refine (wordP mid 1 32 _ hmd).mono ?_; rw [hw]; rintro e w1 ⟨rfl, hb1⟩; have H2 := Lib.hid (H1.out.below hb1); clear hb1)
        go_meet
        exact ⟨by rw [hw]; rfl, H2⟩
      · have hk1' : (kind == 1) = false := by simpa using hk1
        by_cases hk2 : kind = 2
        · subst hk2
          go_wp2_with (go_at_call 42; refine (wordP mid 1 32 _ hmd).mono ?_; rw [hw]; rintro e w1 ⟨rfl, hb1⟩; have H2 := Lib.hid (H1.out.below hb1); clear hb1)
          go_meet
          exact ⟨by rw [hw]; rfl, H2⟩
        · have hk2' : (kind == 2) = false := by simpa using hk2
          go_wp2_with (go_at_call 42; refine (wordP mid 1 32 _ hmd).mono ?_; rw [hw]; rintro e w1 ⟨rfl, hb1⟩; have H2 := Lib.hid (H1.out.below hb1); clear hb1)
          go_meet
          exact ⟨by simp [hk1, hk2], H2⟩
  case rest =>
    obtain ⟨rfl, H2⟩ := hcut
    clear H1 y0 z0 hb1 hb2 hg z1
    cases hbad : (!wordB mid 1 32 || (kind != 1 && kind != 2))
    rotate_left
    · have HE3 := Lib.hid (HE2.out.trans (if_pos (show wordB mid 1 32 = false ∨ (kind ≠ 1 ∧ kind ≠ 2) by simpa using hbad)))
      clear hbad HE2
      go_wp2
      go_returns
      refine Ret.mk (.refl I) H2.out.up4.drop.up4.drop ⟨rfl, ?_⟩
      rw [HE3.out]
      exact ⟨rfl, vT, rfl⟩
    have HE3 := Lib.hid (HE2.out.trans (if_neg (show ¬ (wordB mid 1 32 = false ∨ (kind ≠ 1 ∧ kind ≠ 2)) by
      intro hx
      have : (!wordB mid 1 32 || (kind != 1 && kind != 2)) = true := by simpa using hx
      rw [this] at hbad
      cases hbad)))
    clear hbad HE2
    obtain ⟨A, c, rfl⟩ := own_form (show wc.ownsRow 0 47 4 vT _ _ from H2.out.at 1 rfl)
    obtain ⟨y0, _, hb2⟩ := Blk.one (H2.out.at 4 rfl)
    obtain ⟨z0, _, hb1⟩ := Blk.one (H2.out.at 5 rfl)
    obtain ⟨hcP, hfP, hlP⟩ := Blk.all (H2.out.at 3 rfl)
    have han := anyTC I _ wc A c 47 #[.pointer (some ⟨w.heap.size, 0, none⟩), .pointer (some ⟨w.heap.size + 1, 0, none⟩)] h.ts (fun t => t.member == id && t.mid.toList == mid.toList) eg47 (fun g cur W hW x _ => c47 W x _ _ id mid (Blk.one (hW.at 5 rfl)).1 (Blk.one (hW.at 4 rfl)).1) H2.out.swap1 hlt
    obtain ⟨an, hane⟩ : ∃ an, an = h.ts.any (fun t => t.member == id && t.mid.toList == mid.toList) := ⟨_, rfl⟩
    rw [← hane] at han HE3
    clear hane
    cases an
    rotate_left
    · have HE4 := Lib.hid (HE3.out.trans (if_pos rfl))
      clear HE3
      go_wp2_with (go_at_call 46; refine han.mono ?_; clear han; rintro e w2 ⟨rfl, hs2⟩; have H3 := Lib.hid hs2.swap1; clear hs2)
      go_returns
      refine Ret.mk (.refl I) H3.out.up4.drop.up4.drop ⟨rfl, ?_⟩
      rw [HE4.out]
      exact ⟨rfl, _, rfl⟩
    have HE4 := Lib.hid (HE3.out.trans (if_neg (by simp)))
    clear HE3
    go_upto_region 12 with (go_at_call 46; refine han.mono ?_; clear han; rintro e w2 ⟨rfl, hs2⟩; have H3 := Lib.hid hs2.swap1; clear hs2)
    obtain ⟨hg2, hcell2⟩ := HA.out.1.cells HA.out.2 H3.out
    have z1 := hcell2 1 (by decide)
    simp only [memC, List.getElem?_cons_succ, List.getElem?_cons_zero] at z1
    have htr := tracksC I _ w2 p h vM _ vS m.room H3.out hlt (by omega) hmem
    obtain ⟨tl, htl⟩ : ∃ tl, tl = (tracksS h m.room).length := ⟨_, rfl⟩
    have htll : tl ≤ 1000000 := by
      rw [htl]
      exact Nat.le_trans (List.length_filter_le _ _) hlt
    rw [← htl] at HE4
    have HTL := Lib.hid htl
    clear hcell2 htl hcP hfP hlP y0 z0 hb1 hb2 H2
    by_cases h8 : tl = 8
    · subst h8
      have HE5 := Lib.hid (HE4.out.trans (if_pos rfl))
      clear HE4
      go_wp2_with (go_at_call 13; refine htr.mono ?_; clear htr; rintro e w3 ⟨v, J, M', rfl, hle, hs3, rfl, B, cb, rfl, rfl⟩; rw [← HTL.out]; have H4 := Lib.hid hs3; clear hs3)
      go_returns
      refine Ret.mk (.refl I) H4.out.drop.up4.drop.up4.drop ⟨rfl, ?_⟩
      rw [HE5.out]
      exact ⟨rfl, _, rfl⟩
    have HE5 := Lib.hid (HE4.out.trans (if_neg h8))
    have h8' : ((tl : Int) == 8) = false := by simp; omega
    clear HE4 h8
    go_upto_region 14 with (go_at_call 13; refine htr.mono ?_; clear htr; rintro e w3 ⟨v, J, M', rfl, hle, hs3, rfl, B, cb, rfl, rfl⟩; rw [← HTL.out]; have H4 := Lib.hid hs3.drop; clear hs3)
    clear h8' htll z1 hg2 HTL H3
    obtain ⟨hcP, hfP, hlP⟩ := Blk.all (H4.out.at 3 rfl)
    go_upto_region 15 with fail
    have hs0 := H4.out.set3 4 (.int .i64 (h.li + 1))
    generalize World.setCell _ _ _ = W at hs0 ⊢
    have hs : St I (hou p { h with li := h.li + 1 } vM (.slice A h.ts.length c) vS (bk (w.heap.size + 1) 9 #[.string mid] :: bk w.heap.size 3 #[.int .i64 id] :: M)) (World.drew W) := hs0.drew
    clear hs0 H4 hcP hfP hlP
    obtain ⟨i5, hi, hz0, hz1, hz2⟩ := info_parts info47
    have hnp : (h.ts.length + 1) * 40 ≤ 140737488355328 := by omega
    refine wp_region_held_drew (S := (fun w' => (w'.cell? ⟨w.heap.size, 0, none⟩ = some (.int .i64 id) ∧ w'.cell? ⟨w.heap.size + 1, 0, none⟩ = some (.string mid)) ∧ w'.cell? ⟨p, 4, none⟩ = some (.int .i64 (h.li + 1)))) (by kernel_rfl) (by (try dsimp only); first | exact pKeep (hs.at 5 rfl) (hs.at 4 rfl) (hs.at 3 rfl) | exact pKeep ((hs.grow _).at 5 rfl) ((hs.grow _).at 4 rfl) ((hs.grow _).at 3 rfl)) (fun hHeld => ?_)
    generalize World.drew W = W at hs hHeld ⊢
    refine wpAnyH_take (i := 0) (oi := _) (v := ?_) rfl (by kernel_rfl) (by kernel_rfl) (by kernel_rfl) (fun _ _ _ h => h) (Or.inl ⟨by rfl, ?_⟩) (by assumption) ?_
    rotate_left
    · (intro w hSw; (try dsimp only at hSw); go_simp; try with_reducible rfl)
    try simp only [Act.put, List.getElem_toArray, List.getElem_cons_zero, List.getElem_cons_succ, List.setIfInBounds_toArray, List.set_cons_zero, List.set_cons_succ]
    refine wpAnyH_take (i := 1) (oi := _) (v := ?_) rfl (by kernel_rfl) (by kernel_rfl) (by kernel_rfl) (fun _ _ _ h => h) (Or.inl ⟨by rfl, ?_⟩) (by assumption) ?_
    rotate_left
    · (intro w hSw; (try dsimp only at hSw); go_simp; try with_reducible rfl)
    try simp only [Act.put, List.getElem_toArray, List.getElem_cons_zero, List.getElem_cons_succ, List.setIfInBounds_toArray, List.set_cons_zero, List.set_cons_succ]
    refine wpAnyH_take (i := 2) (oi := _) (v := ?_) rfl (by kernel_rfl) (by kernel_rfl) (by kernel_rfl) (fun _ _ _ h => h) (Or.inl ⟨by rfl, ?_⟩) (by assumption) ?_
    rotate_left
    · (intro w hSw; (try dsimp only at hSw); go_simp; try with_reducible rfl)
    try simp only [Act.put, List.getElem_toArray, List.getElem_cons_zero, List.getElem_cons_succ, List.setIfInBounds_toArray, List.set_cons_zero, List.set_cons_succ]
    refine wpAnyH_take (i := 3) (oi := _) (v := ?_) rfl (by kernel_rfl) (by kernel_rfl) (by kernel_rfl) (fun _ _ _ h => h) (Or.inl ⟨by rfl, ?_⟩) (by assumption) ?_
    rotate_left
    · (intro w hSw; (try dsimp only at hSw); go_simp; try with_reducible rfl)
    try simp only [Act.put, List.getElem_toArray, List.getElem_cons_zero, List.getElem_cons_succ, List.setIfInBounds_toArray, List.set_cons_zero, List.set_cons_succ]
    refine wpAnyH_take (i := 5) (oi := _) (v := ?_) rfl (by kernel_rfl) (by kernel_rfl) (by kernel_rfl) (fun _ _ _ h => h) (Or.inl ⟨by rfl, ?_⟩) (by assumption) ?_
    rotate_left
    · (intro w hSw; (try dsimp only at hSw); go_simp; try with_reducible rfl)
    try simp only [Act.put, List.getElem_toArray, List.getElem_cons_zero, List.getElem_cons_succ, List.setIfInBounds_toArray, List.set_cons_zero, List.set_cons_succ]
    refine wpAnyH_take (i := 6) (oi := _) (v := ?_) rfl (by kernel_rfl) (by kernel_rfl) (by kernel_rfl) (fun _ _ _ h => h) (Or.inl ⟨by rfl, ?_⟩) (by assumption) ?_
    rotate_left
    · (intro w hSw; (try dsimp only at hSw); go_simp; try with_reducible rfl)
    try simp only [Act.put, List.getElem_toArray, List.getElem_cons_zero, List.getElem_cons_succ, List.setIfInBounds_toArray, List.set_cons_zero, List.set_cons_succ]
    refine wpAnyH_take (i := 7) (oi := _) (v := ?_) rfl (by kernel_rfl) (by kernel_rfl) (by kernel_rfl) (fun _ _ _ h => h) (Or.inl ⟨by rfl, ?_⟩) (by assumption) ?_
    rotate_left
    · (intro w hSw; (try dsimp only at hSw); go_simp; try with_reducible rfl)
    try simp only [Act.put, List.getElem_toArray, List.getElem_cons_zero, List.getElem_cons_succ, List.setIfInBounds_toArray, List.set_cons_zero, List.set_cons_succ]
    refine wpAnyH_take (i := 8) (oi := _) (v := ?_) rfl (by kernel_rfl) (by kernel_rfl) (by kernel_rfl) (fun _ _ _ h => h) (Or.inl ⟨by rfl, ?_⟩) (by assumption) ?_
    rotate_left
    · (intro w hSw; (try dsimp only at hSw); go_simp; try with_reducible rfl)
    try simp only [Act.put, List.getElem_toArray, List.getElem_cons_zero, List.getElem_cons_succ, List.setIfInBounds_toArray, List.set_cons_zero, List.set_cons_succ]
    refine wpAnyH_take (i := 9) (oi := _) (v := ?_) rfl (by kernel_rfl) (by kernel_rfl) (by kernel_rfl) (fun _ _ _ h => h) (Or.inl ⟨by rfl, ?_⟩) (by assumption) ?_
    rotate_left
    · (intro w hSw; (try dsimp only at hSw); go_simp; try with_reducible rfl)
    try simp only [Act.put, List.getElem_toArray, List.getElem_cons_zero, List.getElem_cons_succ, List.setIfInBounds_toArray, List.set_cons_zero, List.set_cons_succ]
    refine wpAnyH_take (i := 10) (oi := _) (v := ?_) rfl (by kernel_rfl) (by kernel_rfl) (by kernel_rfl) (fun _ _ _ h => h) (Or.inl ⟨by rfl, ?_⟩) (by assumption) ?_
    rotate_left
    · (intro w hSw; (try dsimp only at hSw); go_simp; try with_reducible rfl)
    try simp only [Act.put, List.getElem_toArray, List.getElem_cons_zero, List.getElem_cons_succ, List.setIfInBounds_toArray, List.set_cons_zero, List.set_cons_succ]
    refine wpAnyH_take (i := 11) (oi := _) (v := ?_) rfl (by kernel_rfl) (by kernel_rfl) (by kernel_rfl) (fun _ _ _ h => h) (Or.inl ⟨by rfl, ?_⟩) (by assumption) ?_
    rotate_left
    · (intro w hSw; (try dsimp only at hSw); go_simp; try with_reducible rfl)
    try simp only [Act.put, List.getElem_toArray, List.getElem_cons_zero, List.getElem_cons_succ, List.setIfInBounds_toArray, List.set_cons_zero, List.set_cons_succ]
    refine wpAnyH_take (i := 12) (oi := _) (v := ?_) rfl (by kernel_rfl) (by kernel_rfl) (by kernel_rfl) (fun _ _ _ h => h) (Or.inl ⟨by rfl, ?_⟩) (by assumption) ?_
    rotate_left
    · (intro w hSw; (try dsimp only at hSw); go_simp; try with_reducible rfl)
    try simp only [Act.put, List.getElem_toArray, List.getElem_cons_zero, List.getElem_cons_succ, List.setIfInBounds_toArray, List.set_cons_zero, List.set_cons_succ]
    refine wpAnyH_ready (rs := [4, 13]) (by kernel_rfl) (by simp) ?_
    refine (AllReadyH.cons (o := _) rfl (fun K hK => ?_) (AllReadyH.cons (o := _) rfl (fun K hK => ?_) AllReadyH.nil))
    · skip
      have hcQ : W.cell? ⟨p, 1, none⟩ = some (.slice A h.ts.length c) := Blk.cell (hs.at 3 rfl) 1
      go_simp
      try clear hHeld
      refine hK.out _ _ (by (try dsimp only); first | exact pKeep (hs.at 5 rfl) (hs.at 4 rfl) (hs.at 3 rfl) | exact pKeep ((hs.grow _).at 5 rfl) ((hs.grow _).at 4 rfl) ((hs.grow _).at 3 rfl)) (fun hHeld => ?_)
      clear hK K
      try simp only [Act.put, List.getElem_toArray, List.getElem_cons_zero, List.getElem_cons_succ, List.setIfInBounds_toArray, List.set_cons_zero, List.set_cons_succ]
      clear hcQ
      refine wpAnyH_ready (rs := [13]) (by kernel_rfl) (by simp) ?_
      refine (AllReadyH.cons (o := _) rfl (fun K hK => ?_) AllReadyH.nil)
      have hsr := hs.litSrcV (P := Try.prog) (t := 36) (e := 47) (cs := #[.int .i64 (h.li + 1), .int .i64 id, .string mid, .int .i64 kind]) (n := 1) (size := 4) rfl (by decide) Try.underlying36 (by simp [Value.oneCell'])
      go_simp
      try clear hHeld
      refine hK.out _ _ (by (try dsimp only); first | exact pKeep (hs.at 5 rfl) (hs.at 4 rfl) (hs.at 3 rfl) | exact pKeep ((hs.grow _).at 5 rfl) ((hs.grow _).at 4 rfl) ((hs.grow _).at 3 rfl)) (fun hHeld => ?_)
      clear hK K
      try simp only [Act.put, List.getElem_toArray, List.getElem_cons_zero, List.getElem_cons_succ, List.setIfInBounds_toArray, List.set_cons_zero, List.set_cons_succ]
      generalize hw : World.alloc W _ = W at hHeld hsr ⊢
      replace hs := hs.growTo hw
      clear hw
      refine wpAnyH_ready (rs := [14]) (by kernel_rfl) (by simp) ?_
      refine (AllReadyH.cons (o := _) rfl (fun K hK => ?_) AllReadyH.nil)
      replace hs := hs.swap1
      refine step_append_src _ (by rfl) _ _ 36 36 (by rfl) 0 47 i5 (.agg #[.int .i64 0, .int .i64 0, .string ⟨#[]⟩, .int .i64 0]) 4 40 Try.underlying36 hi hz0 hz1 hz2 rfl _ h.ts.length (flat trkC h.ts) (by rfl) hs.head _ 1 _ (by rfl) hsr (by unfold maxLen; omega) (by omega) (Nat.zero_le _) ?_
      intro v' W hown' hgrow hat
      have hown2 : W.ownsRow 0 47 4 v' (h.ts.length + 1) (flat trkC (h.ts ++ [Trk.mk (h.li + 1) id mid kind])) := by simpa [flat_append, flat] using hown'
      obtain ⟨A10, c10, rfl⟩ := own_form hown2
      replace hs := (hs.grown hgrow hown2 hat).swap1
      clear hown' hown2 hgrow hat hsr
      try clear hHeld
      refine hK.out _ _ (by (try dsimp only); first | exact pKeep (hs.at 5 rfl) (hs.at 4 rfl) (hs.at 3 rfl) | exact pKeep ((hs.grow _).at 5 rfl) ((hs.grow _).at 4 rfl) ((hs.grow _).at 3 rfl)) (fun hHeld => ?_)
      clear hK K
      try simp only [Act.put, List.getElem_toArray, List.getElem_cons_zero, List.getElem_cons_succ, List.setIfInBounds_toArray, List.set_cons_zero, List.set_cons_succ]
      refine wpAnyH_take (i := 15) (oi := _) (v := ?_) rfl (by kernel_rfl) (by kernel_rfl) (by kernel_rfl) (fun _ _ _ h => h) (Or.inl ⟨by rfl, ?_⟩) (by assumption) ?_
      rotate_left
      · (intro w hSw; (try dsimp only at hSw); go_simp; try with_reducible rfl)
      try simp only [Act.put, List.getElem_toArray, List.getElem_cons_zero, List.getElem_cons_succ, List.setIfInBounds_toArray, List.set_cons_zero, List.set_cons_succ]
      refine wpAnyH_take (i := 16) (oi := _) (v := ?_) rfl (by kernel_rfl) (by kernel_rfl) (by kernel_rfl) (fun _ _ _ h => h) (Or.inl ⟨by rfl, ?_⟩) (by assumption) ?_
      rotate_left
      · (intro w hSw; (try dsimp only at hSw); go_simp; try with_reducible rfl)
      try simp only [Act.put, List.getElem_toArray, List.getElem_cons_zero, List.getElem_cons_succ, List.setIfInBounds_toArray, List.set_cons_zero, List.set_cons_succ]
      refine wpAnyH_ready (rs := [17]) (by kernel_rfl) (by simp) ?_
      refine (AllReadyH.cons (o := _) rfl (fun K hK => ?_) AllReadyH.nil)
      obtain ⟨hcQ, hfQ, hlQ⟩ := Blk.all (show Blk W p 66 _ from hs.at 3 rfl)
      go_simp
      replace hs := hs.set3 1 (.slice A10 (h.ts.length + 1) c10)
      try clear hHeld
      refine hK.out _ _ (by (try dsimp only); first | exact pKeep (hs.at 5 rfl) (hs.at 4 rfl) (hs.at 3 rfl) | exact pKeep ((hs.grow _).at 5 rfl) ((hs.grow _).at 4 rfl) ((hs.grow _).at 3 rfl)) (fun hHeld => ?_)
      clear hK K
      try simp only [Act.put, List.getElem_toArray, List.getElem_cons_zero, List.getElem_cons_succ, List.setIfInBounds_toArray, List.set_cons_zero, List.set_cons_succ]
      clear hcQ hfQ hlQ
      refine wpAnyH_done (by kernel_rfl) ?_ _
      generalize World.setCell _ _ _ = W at hs ⊢
      have HE6 := Lib.hid (show (h.ts ++ [Trk.mk (h.li + 1) id mid kind]).length = h.ts.length + 1 by simp)
      have hs' : St I (hou p { h with ts := h.ts ++ [⟨h.li + 1, id, mid, kind⟩], li := h.li + 1 } vM (.slice A10 (h.ts.length + 1) c10) vS (bk (w.heap.size + 1) 9 #[.string mid] :: bk w.heap.size 3 #[.int .i64 id] :: M)) W := by (unfold hou; dsimp only; rw [HE6.out]; exact hs)
      have HS := Lib.hid hs'
      have hcl : W.cell? ⟨p, 4, none⟩ = some (.int .i64 (h.li + 1)) := Blk.cell (hs'.at 3 rfl) 4
      clear hs hs'
      go_wp2
      go_returns
      refine Ret.mk (.refl I) HS.out.up4.drop.up4.drop ⟨rfl, ?_⟩
      rw [HE5.out]
      exact ⟨rfl, _, rfl⟩
    · skip
      have hsr := hs.litSrcV (P := Try.prog) (t := 36) (e := 47) (cs := #[.int .i64 (h.li + 1), .int .i64 id, .string mid, .int .i64 kind]) (n := 1) (size := 4) rfl (by decide) Try.underlying36 (by simp [Value.oneCell'])
      go_simp
      try clear hHeld
      refine hK.out _ _ (by (try dsimp only); first | exact pKeep (hs.at 5 rfl) (hs.at 4 rfl) (hs.at 3 rfl) | exact pKeep ((hs.grow _).at 5 rfl) ((hs.grow _).at 4 rfl) ((hs.grow _).at 3 rfl)) (fun hHeld => ?_)
      clear hK K
      try simp only [Act.put, List.getElem_toArray, List.getElem_cons_zero, List.getElem_cons_succ, List.setIfInBounds_toArray, List.set_cons_zero, List.set_cons_succ]
      generalize hw : World.alloc W _ = W at hHeld hsr ⊢
      replace hs := hs.growTo hw
      clear hw
      refine wpAnyH_ready (rs := [4]) (by kernel_rfl) (by simp) ?_
      refine (AllReadyH.cons (o := _) rfl (fun K hK => ?_) AllReadyH.nil)
      have hcQ : W.cell? ⟨p, 1, none⟩ = some (.slice A h.ts.length c) := Blk.cell (hs.at 3 rfl) 1
      go_simp
      try clear hHeld
      refine hK.out _ _ (by (try dsimp only); first | exact pKeep (hs.at 5 rfl) (hs.at 4 rfl) (hs.at 3 rfl) | exact pKeep ((hs.grow _).at 5 rfl) ((hs.grow _).at 4 rfl) ((hs.grow _).at 3 rfl)) (fun hHeld => ?_)
      clear hK K
      try simp only [Act.put, List.getElem_toArray, List.getElem_cons_zero, List.getElem_cons_succ, List.setIfInBounds_toArray, List.set_cons_zero, List.set_cons_succ]
      clear hcQ
      refine wpAnyH_ready (rs := [14]) (by kernel_rfl) (by simp) ?_
      refine (AllReadyH.cons (o := _) rfl (fun K hK => ?_) AllReadyH.nil)
      replace hs := hs.swap1
      refine step_append_src _ (by rfl) _ _ 36 36 (by rfl) 0 47 i5 (.agg #[.int .i64 0, .int .i64 0, .string ⟨#[]⟩, .int .i64 0]) 4 40 Try.underlying36 hi hz0 hz1 hz2 rfl _ h.ts.length (flat trkC h.ts) (by rfl) hs.head _ 1 _ (by rfl) hsr (by unfold maxLen; omega) (by omega) (Nat.zero_le _) ?_
      intro v' W hown' hgrow hat
      have hown2 : W.ownsRow 0 47 4 v' (h.ts.length + 1) (flat trkC (h.ts ++ [Trk.mk (h.li + 1) id mid kind])) := by simpa [flat_append, flat] using hown'
      obtain ⟨A10, c10, rfl⟩ := own_form hown2
      replace hs := (hs.grown hgrow hown2 hat).swap1
      clear hown' hown2 hgrow hat hsr
      try clear hHeld
      refine hK.out _ _ (by (try dsimp only); first | exact pKeep (hs.at 5 rfl) (hs.at 4 rfl) (hs.at 3 rfl) | exact pKeep ((hs.grow _).at 5 rfl) ((hs.grow _).at 4 rfl) ((hs.grow _).at 3 rfl)) (fun hHeld => ?_)
      clear hK K
      try simp only [Act.put, List.getElem_toArray, List.getElem_cons_zero, List.getElem_cons_succ, List.setIfInBounds_toArray, List.set_cons_zero, List.set_cons_succ]
      refine wpAnyH_take (i := 15) (oi := _) (v := ?_) rfl (by kernel_rfl) (by kernel_rfl) (by kernel_rfl) (fun _ _ _ h => h) (Or.inl ⟨by rfl, ?_⟩) (by assumption) ?_
      rotate_left
      · (intro w hSw; (try dsimp only at hSw); go_simp; try with_reducible rfl)
      try simp only [Act.put, List.getElem_toArray, List.getElem_cons_zero, List.getElem_cons_succ, List.setIfInBounds_toArray, List.set_cons_zero, List.set_cons_succ]
      refine wpAnyH_take (i := 16) (oi := _) (v := ?_) rfl (by kernel_rfl) (by kernel_rfl) (by kernel_rfl) (fun _ _ _ h => h) (Or.inl ⟨by rfl, ?_⟩) (by assumption) ?_
      rotate_left
      · (intro w hSw; (try dsimp only at hSw); go_simp; try with_reducible rfl)
      try simp only [Act.put, List.getElem_toArray, List.getElem_cons_zero, List.getElem_cons_succ, List.setIfInBounds_toArray, List.set_cons_zero, List.set_cons_succ]
      refine wpAnyH_ready (rs := [17]) (by kernel_rfl) (by simp) ?_
      refine (AllReadyH.cons (o := _) rfl (fun K hK => ?_) AllReadyH.nil)
      obtain ⟨hcQ, hfQ, hlQ⟩ := Blk.all (show Blk W p 66 _ from hs.at 3 rfl)
      go_simp
      replace hs := hs.set3 1 (.slice A10 (h.ts.length + 1) c10)
      try clear hHeld
      refine hK.out _ _ (by (try dsimp only); first | exact pKeep (hs.at 5 rfl) (hs.at 4 rfl) (hs.at 3 rfl) | exact pKeep ((hs.grow _).at 5 rfl) ((hs.grow _).at 4 rfl) ((hs.grow _).at 3 rfl)) (fun hHeld => ?_)
      clear hK K
      try simp only [Act.put, List.getElem_toArray, List.getElem_cons_zero, List.getElem_cons_succ, List.setIfInBounds_toArray, List.set_cons_zero, List.set_cons_succ]
      clear hcQ hfQ hlQ
      refine wpAnyH_done (by kernel_rfl) ?_ _
      generalize World.setCell _ _ _ = W at hs ⊢
      have HE6 := Lib.hid (show (h.ts ++ [Trk.mk (h.li + 1) id mid kind]).length = h.ts.length + 1 by simp)
      have hs' : St I (hou p { h with ts := h.ts ++ [⟨h.li + 1, id, mid, kind⟩], li := h.li + 1 } vM (.slice A10 (h.ts.length + 1) c10) vS (bk (w.heap.size + 1) 9 #[.string mid] :: bk w.heap.size 3 #[.int .i64 id] :: M)) W := by (unfold hou; dsimp only; rw [HE6.out]; exact hs)
      have HS := Lib.hid hs'
      have hcl : W.cell? ⟨p, 4, none⟩ = some (.int .i64 (h.li + 1)) := Blk.cell (hs'.at 3 rfl) 4
      clear hs hs'
      go_wp2
      go_returns
      refine Ret.mk (.refl I) HS.out.up4.drop.up4.drop ⟨rfl, ?_⟩
      rw [HE5.out]
      exact ⟨rfl, _, rfl⟩
end Go.Proofs.Ytbaobonlolbnpaa
