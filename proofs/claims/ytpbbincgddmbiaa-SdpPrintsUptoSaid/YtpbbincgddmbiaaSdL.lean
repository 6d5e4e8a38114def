/- rostrumlaw06.back, ours: a description of the program, as one of the document. -/
import Derived.Test.YtpbbincgddmbiaaSdK
namespace Go.Proofs.Ytpbbincgddmbiaa
open Go.RowKit
set_option linter.unusedSimpArgs false

theorem info54back : (Try.prog.info? 54).map (fun i => (i.zero, i.size, i.bytes)) = some (some (.agg #[.string ⟨#[]⟩, .string ⟨#[]⟩]), 2, 32) := by kernel_rfl
theorem info58back : (Try.prog.info? 58).map (fun i => (i.zero, i.size, i.bytes)) = some (some (.agg #[.string ⟨#[]⟩, .string ⟨#[]⟩, .slice none 0 0]), 3, 56) := by kernel_rfl
set_option maxRecDepth 8000 in
set_option maxHeartbeats 4000000 in
theorem backR (I : Img) (M : List Res) (w : World) (vA : Value) (l : List At) (hst : St I M w) (ha : Attrs I vA l) (hl : l.length * 32 ≤ 140737488351232) :
    Calls Try.prog 25 #[vA] w (Ret I (fun v J M' => I = J ∧ M' = row 54 2 v l.length (flat atC l) :: M)) := by
  have HA := Lib.hid ha
  obtain ⟨A, c, rfl, _⟩ := ha
  have HS := Lib.hid (hst.nil (e := 54) (size := 2))
  clear hst
  go_enter Try.func25, Try.ntmps25
  go_upto_region 3 with fail
  go_loopw [3, 7] (fun ov iv wr => ∃ (k : Nat) (B : Option Addr) (d : Nat), k ≤ l.length ∧ iv = .int .i64 k ∧ ov = .slice B k d ∧ Hid (St I (row 54 2 (.slice B k d) k (flat atC (l.take k)) :: M) wr)) (fun _ iv _ => l.length - (intOf iv).toNat)
  case atStart => exact ⟨0, none, 0, by omega, rfl, rfl, HS⟩
  case round =>
    obtain ⟨k, B, d, hk, rfl, rfl, HSr⟩ := hrel
    clear HS
    by_cases hlt : k < l.length
    · obtain ⟨g, o, c', e1, hc⟩ := HA.out.at (by omega)
      obtain ⟨e1, -, e3⟩ := Value.slice.inj e1
      subst e1 e3
      have HD := Lib.hid (fun M w h => hc M w h k hlt)
      have HTK := Lib.hid (show flat atC (l.take (k + 1)) = flat atC (l.take k) ++ [.string l[k].name, .string l[k].value] by rw [List.take_succ_eq_append_getElem hlt, flat_append]; rfl)
      obtain ⟨a, hae⟩ : ∃ a, a = l[k] := ⟨_, rfl⟩
      rw [← hae] at HD HTK
      clear hc hae
      obtain ⟨an, av⟩ := a
      dsimp only at HD HTK
      have hs := HSr.out.drew
      clear HSr
      obtain ⟨i0, hi0, hz0, hz1, hz2⟩ := info_parts info54back
      go_upto_region 5 with fail
      refine wp_region_held_drew (S := (fun w' => w'.cell? ⟨g, o + k * 2, none⟩ = some (.string an) ∧ w'.cell? ⟨g, o + k * 2 + 1, none⟩ = some (.string av))) (by kernel_rfl) (by (try dsimp only); first | exact HD.out _ _ hs | exact HD.out _ _ (hs.grow _)) (fun hHeld => ?_)
      generalize World.drew _ = W at hs hHeld ⊢
      refine wpAnyH_take (i := 0) (oi := _) (v := ?_) rfl (by kernel_rfl) (by kernel_rfl) (by kernel_rfl) (fun _ _ _ h => h) (Or.inl ⟨by rfl, ?_⟩) (by assumption) ?_
      rotate_left
      · (intro w hSw; (try dsimp only at hSw); go_simp; try with_reducible rfl)
      try simp only [Act.put, List.getElem_toArray, List.getElem_cons_zero, List.getElem_cons_succ, List.setIfInBounds_toArray, List.set_cons_zero, List.set_cons_succ]
      refine wpAnyH_take (i := 1) (oi := _) (v := ?_) rfl (by kernel_rfl) (by kernel_rfl) (by kernel_rfl) (fun _ _ _ h => h) (Or.inl ⟨by rfl, ?_⟩) (by assumption) ?_
      rotate_left
      · (intro w hSw; (try dsimp only at hSw); go_simp; try with_reducible rfl)
      try simp only [Act.put, List.getElem_toArray, List.getElem_cons_zero, List.getElem_cons_succ, List.setIfInBounds_toArray, List.set_cons_zero, List.set_cons_succ]
      refine wpAnyH_take (i := 2) (oi := _) (v := ?_) rfl (by kernel_rfl) (by kernel_rfl) (by kernel_rfl) (fun _ _ _ h => h) (Or.inl ⟨by rfl, ?_⟩) (by assumption) ?_
      rotate_left
      · (intro w hSw; (try dsimp only at hSw); go_simp; try with_reducible rfl)
      try simp only [Act.put, List.getElem_toArray, List.getElem_cons_zero, List.getElem_cons_succ, List.setIfInBounds_toArray, List.set_cons_zero, List.set_cons_succ]
      refine wpAnyH_take (i := 3) (oi := _) (v := ?_) rfl (by kernel_rfl) (by kernel_rfl) (by kernel_rfl) (fun _ _ _ h => h) (Or.inl ⟨by rfl, ?_⟩) (by assumption) ?_
      rotate_left
      · (intro w hSw; (try dsimp only at hSw); go_simp; try with_reducible rfl)
      try simp only [Act.put, List.getElem_toArray, List.getElem_cons_zero, List.getElem_cons_succ, List.setIfInBounds_toArray, List.set_cons_zero, List.set_cons_succ]
      refine wpAnyH_take (i := 4) (oi := _) (v := ?_) rfl (by kernel_rfl) (by kernel_rfl) (by kernel_rfl) (fun _ _ _ h => h) (Or.inl ⟨by rfl, ?_⟩) (by assumption) ?_
      rotate_left
      · (intro w hSw; (try dsimp only at hSw); go_simp; try with_reducible rfl)
      try simp only [Act.put, List.getElem_toArray, List.getElem_cons_zero, List.getElem_cons_succ, List.setIfInBounds_toArray, List.set_cons_zero, List.set_cons_succ]
      refine wpAnyH_take (i := 5) (oi := _) (v := ?_) rfl (by kernel_rfl) (by kernel_rfl) (by kernel_rfl) (fun _ _ _ h => h) (Or.inl ⟨by rfl, ?_⟩) (by assumption) ?_
      rotate_left
      · (intro w hSw; (try dsimp only at hSw); go_simp; try with_reducible rfl)
      try simp only [Act.put, List.getElem_toArray, List.getElem_cons_zero, List.getElem_cons_succ, List.setIfInBounds_toArray, List.set_cons_zero, List.set_cons_succ]
      refine wpAnyH_take (i := 6) (oi := _) (v := ?_) rfl (by kernel_rfl) (by kernel_rfl) (by kernel_rfl) (fun _ _ _ h => h) (Or.inl ⟨by rfl, ?_⟩) (by assumption) ?_
      rotate_left
      · (intro w hSw; (try dsimp only at hSw); go_simp; try with_reducible rfl)
      try simp only [Act.put, List.getElem_toArray, List.getElem_cons_zero, List.getElem_cons_succ, List.setIfInBounds_toArray, List.set_cons_zero, List.set_cons_succ]
      refine wpAnyH_take (i := 7) (oi := _) (v := ?_) rfl (by kernel_rfl) (by kernel_rfl) (by kernel_rfl) (fun _ _ _ h => h) (Or.inl ⟨by rfl, ?_⟩) (by assumption) ?_
      rotate_left
      · (intro w hSw; (try dsimp only at hSw); go_simp; try with_reducible rfl)
      try simp only [Act.put, List.getElem_toArray, List.getElem_cons_zero, List.getElem_cons_succ, List.setIfInBounds_toArray, List.set_cons_zero, List.set_cons_succ]
      refine wpAnyH_take (i := 8) (oi := _) (v := ?_) rfl (by kernel_rfl) (by kernel_rfl) (by kernel_rfl) (fun _ _ _ h => h) (Or.inl ⟨by rfl, ?_⟩) (by assumption) ?_
      rotate_left
      · (intro w hSw; (try dsimp only at hSw); go_simp; try with_reducible rfl)
      try simp only [Act.put, List.getElem_toArray, List.getElem_cons_zero, List.getElem_cons_succ, List.setIfInBounds_toArray, List.set_cons_zero, List.set_cons_succ]
      refine wpAnyH_take (i := 9) (oi := _) (v := ?_) rfl (by kernel_rfl) (by kernel_rfl) (by kernel_rfl) (fun _ _ _ h => h) (Or.inl ⟨by rfl, ?_⟩) (by assumption) ?_
      rotate_left
      · (intro w hSw; (try dsimp only at hSw); go_simp; try with_reducible rfl)
      try simp only [Act.put, List.getElem_toArray, List.getElem_cons_zero, List.getElem_cons_succ, List.setIfInBounds_toArray, List.set_cons_zero, List.set_cons_succ]
      refine wpAnyH_take (i := 10) (oi := _) (v := ?_) rfl (by kernel_rfl) (by kernel_rfl) (by kernel_rfl) (fun _ _ _ h => h) (Or.inl ⟨by rfl, ?_⟩) (by assumption) ?_
      rotate_left
      · (intro w hSw; (try dsimp only at hSw); go_simp; try with_reducible rfl)
      try simp only [Act.put, List.getElem_toArray, List.getElem_cons_zero, List.getElem_cons_succ, List.setIfInBounds_toArray, List.set_cons_zero, List.set_cons_succ]
      refine wpAnyH_take (i := 11) (oi := _) (v := ?_) rfl (by kernel_rfl) (by kernel_rfl) (by kernel_rfl) (fun _ _ _ h => h) (Or.inl ⟨by rfl, ?_⟩) (by assumption) ?_
      rotate_left
      · (intro w hSw; (try dsimp only at hSw); go_simp; try with_reducible rfl)
      try simp only [Act.put, List.getElem_toArray, List.getElem_cons_zero, List.getElem_cons_succ, List.setIfInBounds_toArray, List.set_cons_zero, List.set_cons_succ]
      refine wpAnyH_ready (rs := [12]) (by kernel_rfl) (by simp) ?_
      refine (AllReadyH.cons (o := _) rfl (fun K hK => ?_) AllReadyH.nil)
      have hsr := hs.litSrcV (P := Try.prog) (t := 23) (e := 54) (cs := #[.string an, .string av]) (n := 1) (size := 2) rfl (by decide) Try.underlying23 (by simp [Value.oneCell'])
      go_simp
      try clear hHeld
      refine hK.out _ _ (by (try dsimp only); first | exact HD.out _ _ hs | exact HD.out _ _ (hs.grow _)) (fun hHeld => ?_)
      clear hK K
      try simp only [Act.put, List.getElem_toArray, List.getElem_cons_zero, List.getElem_cons_succ, List.setIfInBounds_toArray, List.set_cons_zero, List.set_cons_succ]
      generalize hw : World.alloc W _ = W at hHeld hsr ⊢
      replace hs := hs.growTo hw
      clear hw
      refine wpAnyH_ready (rs := [13]) (by kernel_rfl) (by simp) ?_
      refine (AllReadyH.cons (o := _) rfl (fun K hK => ?_) AllReadyH.nil)
      refine step_append_src _ (by rfl) _ _ 23 23 (by rfl) 0 54 i0 (.agg #[.string ⟨#[]⟩, .string ⟨#[]⟩]) 2 32 Try.underlying23 hi0 hz0 hz1 hz2 rfl _ k (flat atC (l.take k)) (by rfl) hs.head _ 1 _ (by rfl) hsr (by unfold maxLen; omega) (by omega) (Nat.zero_le _) ?_
      intro v' W hown' hgrow hat
      have hown2 : W.ownsRow 0 54 2 v' (k + 1) (flat atC (l.take (k + 1))) := by rw [HTK.out]; exact hown'
      obtain ⟨A10, c10, rfl⟩ := own_form hown2
      replace hs := hs.grown hgrow hown2 hat
      clear hown' hown2 hgrow hat hsr
      try clear hHeld
      refine hK.out _ _ (by (try dsimp only); first | exact HD.out _ _ hs | exact HD.out _ _ (hs.grow _)) (fun hHeld => ?_)
      clear hK K
      try simp only [Act.put, List.getElem_toArray, List.getElem_cons_zero, List.getElem_cons_succ, List.setIfInBounds_toArray, List.set_cons_zero, List.set_cons_succ]
      refine wpAnyH_take (i := 14) (oi := _) (v := ?_) rfl (by kernel_rfl) (by kernel_rfl) (by kernel_rfl) (fun _ _ _ h => h) (Or.inl ⟨by rfl, ?_⟩) (by assumption) ?_
      rotate_left
      · (intro w hSw; (try dsimp only at hSw); go_simp; try with_reducible rfl)
      try simp only [Act.put, List.getElem_toArray, List.getElem_cons_zero, List.getElem_cons_succ, List.setIfInBounds_toArray, List.set_cons_zero, List.set_cons_succ]
      refine wpAnyH_done (by kernel_rfl) ?_ _
      have HS5 := Lib.hid hs
      clear hs
      go_wp2
      go_roundw
      case rel => exact ⟨k + 1, A10, c10, by omega, by go_num, rfl, HS5⟩
      case measure => simp [intOf]; omega
    · have hke : k = l.length := by omega
      have hgt : (l.length : Int) ≤ k := by omega
      have hs := HSr.out
      rw [hke, List.take_length] at hs
      have HS5 := Lib.hid hs
      clear hs HSr hlt
      go_wp2
      go_returns
      refine Ret.mk (.refl I) HS5.out ⟨rfl, ?_⟩
      first | rfl | (rw [hke]; rfl)
theorem headoursKeep {w : World} {b : Nat} {x : Ss} {vA vP : Value} (h : Blk w b 33 (head5 x vA vP)) : w.cell? ⟨b, 0, none⟩ = some (.string x.origin) ∧ w.cell? ⟨b, 1, none⟩ = some (.string x.name) ∧ w.cell? ⟨b, 2, none⟩ = some (.string x.time) ∧ w.cell? ⟨b, 3, none⟩ = some vA ∧ w.cell? ⟨b, 4, none⟩ = some vP := ⟨h.cell 0, h.cell 1, h.cell 2, h.cell 3, h.cell 4⟩
theorem res12 (w : World) (q : Nat) (a b c : ByteArray) (d e : Value) (tmps : Array Value) (ht : tmps[2]? = some (.pointer (some ⟨q, 0, none⟩))) (h : Blk w q 26 #[.string a, .string b, .string c, d, e]) :
    (results Try.f12 tmps).run Try.prog w = .ok (.agg #[.string a, .string b, .string c, d, e]) w := by
  have c0 := h.cell 0
  have c1 := h.cell 1
  have c2 := h.cell 2
  have c3 := h.cell 3
  have c4 := h.cell 4
  simp only [List.getElem?_toArray, List.getElem?_cons_zero, List.getElem?_cons_succ] at c0 c1 c2 c3 c4
  simp [results, Try.results12, go_sem, ht, c0, c1, c2, c3, c4]
set_option maxRecDepth 8000 in
set_option maxHeartbeats 8000000 in
theorem oursR (I : Img) (M : List Res) (w : World) (vA vP : Value) (x : Ss) (pv : List (Pa × Value)) (hst : St I M w) (ha : Ses I vA vP pv x) (hl : x.attrs.length * 32 ≤ 140737488351232) (hp : pv.length * 56 ≤ 140737488351232) (hpe : ∀ p ∈ pv, p.1.attrs.length * 32 ≤ 140737488351232) :
    Calls Try.prog 12 #[.agg (head5 x vA vP)] w (Ret I (fun v J M' => I = J ∧ ∃ vA' vP' qv, partsOf qv = x.parts ∧ v = .agg (head5 x vA' vP') ∧ M' = sesV 54 58 x vA' vP' qv M)) := by
  have hs2 := (hst.alloc 33 (head5 x vA vP)).alloc 26 zero5
  rw [size_alloc] at hs2
  have HA := Lib.hid ha
  have HPE := Lib.hid hpe
  obtain ⟨aA, cA, rfl, _⟩ := ha.attrs
  obtain ⟨aP, cP, rfl, _⟩ := ha.parts
  have hs := hs2.drew
  obtain ⟨r, hr⟩ : ∃ r, r = w.heap.size + 1 := ⟨_, rfl⟩
  obtain ⟨b0, hb0⟩ : ∃ b, b = w.heap.size := ⟨_, rfl⟩
  rw [← hr, ← hb0] at hs
  clear hst ha hpe hs2
  go_enter Try.func12, Try.ntmps12
  go_upto_region 1 with fail
  rw [← hb0]
  rw [← hb0] at hr
  rw [← hr]
  clear hb0 hr
  generalize World.alloc (World.alloc _ _) _ = W0 at hs ⊢
  go_cut [3] (fun pq wx => ∃ (q : Nat) (A9 : Option Addr) (c9 : Nat), pq = .pointer (some ⟨q, 0, none⟩) ∧ Hid (St I (row 54 2 (.slice A9 x.attrs.length c9) x.attrs.length (flat atC x.attrs) :: bk q 26 (head5 x (.slice A9 x.attrs.length c9) (.slice none 0 0)) :: bk r 26 zero5 :: bk b0 33 (head5 x (.slice aA x.attrs.length cA) (.slice aP pv.length cP)) :: M) wx))
  case first =>
    refine wp_region_held_drew (S := (fun w' => w'.cell? ⟨b0, 0, none⟩ = some (.string x.origin) ∧ w'.cell? ⟨b0, 1, none⟩ = some (.string x.name) ∧ w'.cell? ⟨b0, 2, none⟩ = some (.string x.time) ∧ w'.cell? ⟨b0, 3, none⟩ = some (.slice aA x.attrs.length cA) ∧ w'.cell? ⟨b0, 4, none⟩ = some (.slice aP pv.length cP))) (by kernel_rfl) (by (try dsimp only); first | exact headoursKeep (hs.at 3 rfl) | exact headoursKeep (hs.at 2 rfl) | exact headoursKeep (hs.at 1 rfl)) (fun hHeld => ?_)
    generalize World.drew _ = W at hs hHeld ⊢
    refine wpAnyH_take (i := 0) (oi := _) (v := ?_) rfl (by kernel_rfl) (by kernel_rfl) (by kernel_rfl) (fun _ _ _ h => h) (Or.inl ⟨by rfl, ?_⟩) (by assumption) ?_
    rotate_left
    · (intro w hSw; (try dsimp only at hSw); go_simp; try with_reducible rfl)
    try simp only [Act.put, List.getElem_toArray, List.getElem_cons_zero, List.getElem_cons_succ, List.setIfInBounds_toArray, List.set_cons_zero, List.set_cons_succ]
    refine wpAnyH_take (i := 1) (oi := _) (v := ?_) rfl (by kernel_rfl) (by kernel_rfl) (by kernel_rfl) (fun _ _ _ h => h) (Or.inl ⟨by rfl, ?_⟩) (by assumption) ?_
    rotate_left
    · (intro w hSw; (try dsimp only at hSw); go_simp; try with_reducible rfl)
    try simp only [Act.put, List.getElem_toArray, List.getElem_cons_zero, List.getElem_cons_succ, List.setIfInBounds_toArray, List.set_cons_zero, List.set_cons_succ]
    refine wpAnyH_take (i := 2) (oi := _) (v := ?_) rfl (by kernel_rfl) (by kernel_rfl) (by kernel_rfl) (fun _ _ _ h => h) (Or.inl ⟨by rfl, ?_⟩) (by assumption) ?_
    rotate_left
    · (intro w hSw; (try dsimp only at hSw); go_simp; try with_reducible rfl)
    try simp only [Act.put, List.getElem_toArray, List.getElem_cons_zero, List.getElem_cons_succ, List.setIfInBounds_toArray, List.set_cons_zero, List.set_cons_succ]
    refine wpAnyH_take (i := 3) (oi := _) (v := ?_) rfl (by kernel_rfl) (by kernel_rfl) (by kernel_rfl) (fun _ _ _ h => h) (Or.inl ⟨by rfl, ?_⟩) (by assumption) ?_
    rotate_left
    · (intro w hSw; (try dsimp only at hSw); go_simp; try with_reducible rfl)
    try simp only [Act.put, List.getElem_toArray, List.getElem_cons_zero, List.getElem_cons_succ, List.setIfInBounds_toArray, List.set_cons_zero, List.set_cons_succ]
    refine wpAnyH_take (i := 4) (oi := _) (v := ?_) rfl (by kernel_rfl) (by kernel_rfl) (by kernel_rfl) (fun _ _ _ h => h) (Or.inl ⟨by rfl, ?_⟩) (by assumption) ?_
    rotate_left
    · (intro w hSw; (try dsimp only at hSw); go_simp; try with_reducible rfl)
    try simp only [Act.put, List.getElem_toArray, List.getElem_cons_zero, List.getElem_cons_succ, List.setIfInBounds_toArray, List.set_cons_zero, List.set_cons_succ]
    refine wpAnyH_take (i := 5) (oi := _) (v := ?_) rfl (by kernel_rfl) (by kernel_rfl) (by kernel_rfl) (fun _ _ _ h => h) (Or.inl ⟨by rfl, ?_⟩) (by assumption) ?_
    rotate_left
    · (intro w hSw; (try dsimp only at hSw); go_simp; try with_reducible rfl)
    try simp only [Act.put, List.getElem_toArray, List.getElem_cons_zero, List.getElem_cons_succ, List.setIfInBounds_toArray, List.set_cons_zero, List.set_cons_succ]
    refine wpAnyH_take (i := 6) (oi := _) (v := ?_) rfl (by kernel_rfl) (by kernel_rfl) (by kernel_rfl) (fun _ _ _ h => h) (Or.inl ⟨by rfl, ?_⟩) (by assumption) ?_
    rotate_left
    · (intro w hSw; (try dsimp only at hSw); go_simp; try with_reducible rfl)
    try simp only [Act.put, List.getElem_toArray, List.getElem_cons_zero, List.getElem_cons_succ, List.setIfInBounds_toArray, List.set_cons_zero, List.set_cons_succ]
    refine wpAnyH_take (i := 7) (oi := _) (v := ?_) rfl (by kernel_rfl) (by kernel_rfl) (by kernel_rfl) (fun _ _ _ h => h) (Or.inl ⟨by rfl, ?_⟩) (by assumption) ?_
    rotate_left
    · (intro w hSw; (try dsimp only at hSw); go_simp; try with_reducible rfl)
    try simp only [Act.put, List.getElem_toArray, List.getElem_cons_zero, List.getElem_cons_succ, List.setIfInBounds_toArray, List.set_cons_zero, List.set_cons_succ]
    refine wpAnyH_ready (rs := [8, 10]) (by kernel_rfl) (by simp) ?_
    refine (AllReadyH.cons (o := _) rfl (fun K hK => ?_) (AllReadyH.cons (o := _) rfl (fun K hK => ?_) AllReadyH.nil))
    · skip
      go_simp
      refine (backR I _ W (.slice aA x.attrs.length cA) x.attrs hs HA.out.attrs hl).mono ?_
      clear hs
      rintro e W ⟨_, _, _, rfl, _, hs, rfl, rfl⟩
      obtain ⟨A9, c9, hv9⟩ := own_form (show World.ownsRow _ 0 54 2 _ _ _ from hs.head)
      subst hv9
      try clear hHeld
      refine hK.out _ _ (by (try dsimp only); first | exact headoursKeep (hs.at 3 rfl) | exact headoursKeep (hs.at 2 rfl) | exact headoursKeep (hs.at 1 rfl)) (fun hHeld => ?_)
      clear hK K
      try simp only [Act.put, List.getElem_toArray, List.getElem_cons_zero, List.getElem_cons_succ, List.setIfInBounds_toArray, List.set_cons_zero, List.set_cons_succ]
      refine wpAnyH_take (i := 9) (oi := _) (v := ?_) rfl (by kernel_rfl) (by kernel_rfl) (by kernel_rfl) (fun _ _ _ h => h) (Or.inl ⟨by rfl, ?_⟩) (by assumption) ?_
      rotate_left
      · (intro w hSw; (try dsimp only at hSw); go_simp; try with_reducible rfl)
      try simp only [Act.put, List.getElem_toArray, List.getElem_cons_zero, List.getElem_cons_succ, List.setIfInBounds_toArray, List.set_cons_zero, List.set_cons_succ]
      refine wpAnyH_ready (rs := [10]) (by kernel_rfl) (by simp) ?_
      refine (AllReadyH.cons (o := _) rfl (fun K hK => ?_) AllReadyH.nil)
      go_simp
      replace hs := hs.alloc 26 zero5
      obtain ⟨q, hq⟩ : ∃ q, q = W.heap.size := ⟨_, rfl⟩
      rw [← hq] at hs ⊢
      clear hq
      generalize World.alloc W _ = W at hs ⊢
      first | (have _h := c9; replace hs := hs.swap1; clear _h) | skip
      try clear hHeld
      refine hK.out _ _ (by (try dsimp only); first | exact headoursKeep (hs.at 3 rfl) | exact headoursKeep (hs.at 2 rfl) | exact headoursKeep (hs.at 1 rfl)) (fun hHeld => ?_)
      clear hK K
      try simp only [Act.put, List.getElem_toArray, List.getElem_cons_zero, List.getElem_cons_succ, List.setIfInBounds_toArray, List.set_cons_zero, List.set_cons_succ]
      refine wpAnyH_ready (rs := [11]) (by kernel_rfl) (by simp) ?_
      refine (AllReadyH.cons (o := _) rfl (fun K hK => ?_) AllReadyH.nil)
      obtain ⟨hcQ, hfQ, hlQ⟩ := Blk.all (hs.at 1 rfl)
      go_simp
      replace hs := ((((hs.set1 0 (.string x.origin)).set1 1 (.string x.name)).set1 2 (.string x.time)).set1 3 (.slice A9 x.attrs.length c9)).set1 4 (.slice none 0 0)
      try clear hHeld
      refine hK.out _ _ (by (try dsimp only); first | exact headoursKeep (hs.at 3 rfl) | exact headoursKeep (hs.at 2 rfl) | exact headoursKeep (hs.at 1 rfl)) (fun hHeld => ?_)
      clear hK K
      try simp only [Act.put, List.getElem_toArray, List.getElem_cons_zero, List.getElem_cons_succ, List.setIfInBounds_toArray, List.set_cons_zero, List.set_cons_succ]
      clear hcQ hfQ hlQ
      refine wpAnyH_done (by kernel_rfl) ?_ _
      have HS9 := Lib.hid hs
      clear hs
      go_wp2
      go_meet
      exact ⟨q, A9, c9, rfl, HS9⟩
    · skip
      go_simp
      replace hs := hs.alloc 26 zero5
      obtain ⟨q, hq⟩ : ∃ q, q = W.heap.size := ⟨_, rfl⟩
      rw [← hq] at hs ⊢
      clear hq
      generalize World.alloc W _ = W at hs ⊢
      first | (have _h := c9; replace hs := hs.swap1; clear _h) | skip
      try clear hHeld
      refine hK.out _ _ (by (try dsimp only); first | exact headoursKeep (hs.at 3 rfl) | exact headoursKeep (hs.at 2 rfl) | exact headoursKeep (hs.at 1 rfl)) (fun hHeld => ?_)
      clear hK K
      try simp only [Act.put, List.getElem_toArray, List.getElem_cons_zero, List.getElem_cons_succ, List.setIfInBounds_toArray, List.set_cons_zero, List.set_cons_succ]
      refine wpAnyH_ready (rs := [8]) (by kernel_rfl) (by simp) ?_
      refine (AllReadyH.cons (o := _) rfl (fun K hK => ?_) AllReadyH.nil)
      go_simp
      refine (backR I _ W (.slice aA x.attrs.length cA) x.attrs hs HA.out.attrs hl).mono ?_
      clear hs
      rintro e W ⟨_, _, _, rfl, _, hs, rfl, rfl⟩
      obtain ⟨A9, c9, hv9⟩ := own_form (show World.ownsRow _ 0 54 2 _ _ _ from hs.head)
      subst hv9
      try clear hHeld
      refine hK.out _ _ (by (try dsimp only); first | exact headoursKeep (hs.at 3 rfl) | exact headoursKeep (hs.at 2 rfl) | exact headoursKeep (hs.at 1 rfl)) (fun hHeld => ?_)
      clear hK K
      try simp only [Act.put, List.getElem_toArray, List.getElem_cons_zero, List.getElem_cons_succ, List.setIfInBounds_toArray, List.set_cons_zero, List.set_cons_succ]
      refine wpAnyH_take (i := 9) (oi := _) (v := ?_) rfl (by kernel_rfl) (by kernel_rfl) (by kernel_rfl) (fun _ _ _ h => h) (Or.inl ⟨by rfl, ?_⟩) (by assumption) ?_
      rotate_left
      · (intro w hSw; (try dsimp only at hSw); go_simp; try with_reducible rfl)
      try simp only [Act.put, List.getElem_toArray, List.getElem_cons_zero, List.getElem_cons_succ, List.setIfInBounds_toArray, List.set_cons_zero, List.set_cons_succ]
      refine wpAnyH_ready (rs := [11]) (by kernel_rfl) (by simp) ?_
      refine (AllReadyH.cons (o := _) rfl (fun K hK => ?_) AllReadyH.nil)
      obtain ⟨hcQ, hfQ, hlQ⟩ := Blk.all (hs.at 1 rfl)
      go_simp
      replace hs := ((((hs.set1 0 (.string x.origin)).set1 1 (.string x.name)).set1 2 (.string x.time)).set1 3 (.slice A9 x.attrs.length c9)).set1 4 (.slice none 0 0)
      try clear hHeld
      refine hK.out _ _ (by (try dsimp only); first | exact headoursKeep (hs.at 3 rfl) | exact headoursKeep (hs.at 2 rfl) | exact headoursKeep (hs.at 1 rfl)) (fun hHeld => ?_)
      clear hK K
      try simp only [Act.put, List.getElem_toArray, List.getElem_cons_zero, List.getElem_cons_succ, List.setIfInBounds_toArray, List.set_cons_zero, List.set_cons_succ]
      clear hcQ hfQ hlQ
      refine wpAnyH_done (by kernel_rfl) ?_ _
      have HS9 := Lib.hid hs
      clear hs
      go_wp2
      go_meet
      exact ⟨q, A9, c9, rfl, HS9⟩
  case rest =>
  obtain ⟨q, A9, c9, rfl, HS⟩ := hcut
  clear hs
  have hs := HS.out
  obtain ⟨hcQ, hfQ, hlQ⟩ := Blk.all (hs.at 3 rfl)
  go_upto_region 3 with fail
  clear hcQ hfQ hlQ hs
  go_loopw [18] (fun iv wr => ∃ (k : Nat) (vP' : Value) (qv : List (Pa × Value)), k ≤ pv.length ∧ iv = .int .i64 k ∧ Hid (qv.length = k ∧ partsOf qv = (partsOf pv).take k ∧ St I (row 58 3 vP' qv.length (flat paC qv) :: row 54 2 (.slice A9 x.attrs.length c9) x.attrs.length (flat atC x.attrs) :: bk q 26 (head5 x (.slice A9 x.attrs.length c9) vP') :: bk r 26 zero5 :: bk b0 33 (head5 x (.slice aA x.attrs.length cA) (.slice aP pv.length cP)) :: (qv.map (arow 54) ++ M)) wr)) (fun iv _ => pv.length - (intOf iv).toNat)
  case atStart => exact ⟨0, .slice none 0 0, [], by omega, rfl, Lib.hid ⟨rfl, rfl, HS.out.nil (e := 58) (size := 3)⟩⟩
  case round =>
    obtain ⟨k, vP', qv, hk, rfl, HR⟩ := hrel
    clear HS
    by_cases hlt : k < pv.length
    rotate_left
    · have hke : k = pv.length := by omega
      have hgt : (pv.length : Int) ≤ k := by omega
      obtain ⟨h1, h2, hs⟩ := HR.out
      rw [hke, List.take_of_length_le (by simp [partsOf]), HA.out.same] at h2
      obtain ⟨a2, c2, rfl⟩ := own_form (show World.ownsRow _ 0 58 3 vP' _ _ from hs.at 0 rfl)
      obtain ⟨hcQ, hfQ, hlQ⟩ := Blk.all (hs.at 2 rfl)
      obtain ⟨hcR, hfR, hlR⟩ := Blk.all (hs.at 3 rfl)
      have hs5 := ((((hs.set3 0 (.string x.origin)).set3 1 (.string x.name)).set3 2 (.string x.time)).set3 3 (.slice A9 x.attrs.length c9)).set3 4 (.slice a2 qv.length c2)
      have H5 := Lib.hid hs5
      have H2 := Lib.hid h2
      clear hs hs5 h1 h2 HR hke hlt
      go_wp2
      refine bodyPost_ret (res12 _ _ x.origin x.name x.time (.slice A9 x.attrs.length c9) (.slice a2 qv.length c2) _ rfl (H5.out.at 3 rfl)) rfl ?_
      exact Ret.mk (.refl I) H5.out.swap2.drop.swap2.drop.swap2.drop.swap1 ⟨rfl, _, _, qv, H2.out, rfl, rfl⟩
    obtain ⟨g, o, c', e1, hc⟩ := HA.out.parts.at (by omega)
    obtain ⟨e1, -, e3⟩ := Value.slice.inj e1
    subst e1 e3
    obtain ⟨h1, h2, hs⟩ := HR.out
    have HD := Lib.hid (fun M w h => hc M w h k hlt)
    have HTK := Lib.hid (show (partsOf pv).take (k + 1) = partsOf qv ++ [pv[k].1] by
      rw [List.take_succ_eq_append_getElem (by simpa [partsOf] using hlt), h2]
      simp [partsOf])
    have HP1 := Lib.hid (HA.out.each pv[k] (List.getElem_mem hlt))
    have hz1 := HPE.out pv[k] (List.getElem_mem hlt)
    have HQ1 := Lib.hid h1
    obtain ⟨a, hae⟩ : ∃ a, a = pv[k] := ⟨_, rfl⟩
    rw [← hae] at HD HTK HP1 hz1
    clear hc hae h2
    obtain ⟨⟨al, ac, aa⟩, av⟩ := a
    dsimp only at HD HTK HP1 hz1
    obtain ⟨aV, cV, rfl, _⟩ := HP1.out
    replace hs := hs.drew
    have hqk : qv.length ≤ pv.length := by omega
    clear HR h1
    obtain ⟨i5, hi5, hz0, hz1', hz2⟩ := info_parts info58back
    go_upto_region 5 with fail
    refine wp_region_held_drew (S := (fun w' => w'.cell? ⟨b0, 4, none⟩ = some (.slice (some ⟨g, o, none⟩) pv.length cP) ∧ (w'.cell? ⟨g, o + k * 3, none⟩ = some (.string al) ∧ w'.cell? ⟨g, o + k * 3 + 1, none⟩ = some (.string ac) ∧ w'.cell? ⟨g, o + k * 3 + 2, none⟩ = some (.slice aV aa.length cV)))) (by kernel_rfl) (by (try dsimp only); first | exact ⟨Blk.cell (hs.at 5 rfl) 4, HD.out _ _ hs⟩ | exact ⟨Blk.cell ((hs.grow _).at 5 rfl) 4, HD.out _ _ (hs.grow _)⟩ | exact ⟨Blk.cell (hs.at 4 rfl) 4, HD.out _ _ hs⟩) (fun hHeld => ?_)
    generalize World.drew _ = W at hs hHeld ⊢
    refine wpAnyH_take (i := 0) (oi := _) (v := ?_) rfl (by kernel_rfl) (by kernel_rfl) (by kernel_rfl) (fun _ _ _ h => h) (Or.inl ⟨by rfl, ?_⟩) (by assumption) ?_
    rotate_left
    · (intro w hSw; (try dsimp only at hSw); go_simp; try with_reducible rfl)
    try simp only [Act.put, List.getElem_toArray, List.getElem_cons_zero, List.getElem_cons_succ, List.setIfInBounds_toArray, List.set_cons_zero, List.set_cons_succ]
    refine wpAnyH_take (i := 2) (oi := _) (v := ?_) rfl (by kernel_rfl) (by kernel_rfl) (by kernel_rfl) (fun _ _ _ h => h) (Or.inl ⟨by rfl, ?_⟩) (by assumption) ?_
    rotate_left
    · (intro w hSw; (try dsimp only at hSw); go_simp; try with_reducible rfl)
    try simp only [Act.put, List.getElem_toArray, List.getElem_cons_zero, List.getElem_cons_succ, List.setIfInBounds_toArray, List.set_cons_zero, List.set_cons_succ]
    refine wpAnyH_take (i := 3) (oi := _) (v := ?_) rfl (by kernel_rfl) (by kernel_rfl) (by kernel_rfl) (fun _ _ _ h => h) (Or.inl ⟨by rfl, ?_⟩) (by assumption) ?_
    rotate_left
    · (intro w hSw; (try dsimp only at hSw); go_simp; try with_reducible rfl)
    try simp only [Act.put, List.getElem_toArray, List.getElem_cons_zero, List.getElem_cons_succ, List.setIfInBounds_toArray, List.set_cons_zero, List.set_cons_succ]
    refine wpAnyH_take (i := 4) (oi := _) (v := ?_) rfl (by kernel_rfl) (by kernel_rfl) (by kernel_rfl) (fun _ _ _ h => h) (Or.inl ⟨by rfl, ?_⟩) (by assumption) ?_
    rotate_left
    · (intro w hSw; (try dsimp only at hSw); go_simp; try with_reducible rfl)
    try simp only [Act.put, List.getElem_toArray, List.getElem_cons_zero, List.getElem_cons_succ, List.setIfInBounds_toArray, List.set_cons_zero, List.set_cons_succ]
    refine wpAnyH_take (i := 5) (oi := _) (v := ?_) rfl (by kernel_rfl) (by kernel_rfl) (by kernel_rfl) (fun _ _ _ h => h) (Or.inl ⟨by rfl, ?_⟩) (by assumption) ?_
    rotate_left
    · (intro w hSw; (try dsimp only at hSw); go_simp; try with_reducible rfl)
    try simp only [Act.put, List.getElem_toArray, List.getElem_cons_zero, List.getElem_cons_succ, List.setIfInBounds_toArray, List.set_cons_zero, List.set_cons_succ]
    refine wpAnyH_take (i := 6) (oi := _) (v := ?_) rfl (by kernel_rfl) (by kernel_rfl) (by kernel_rfl) (fun _ _ _ h => h) (Or.inl ⟨by rfl, ?_⟩) (by assumption) ?_
    rotate_left
    · (intro w hSw; (try dsimp only at hSw); go_simp; try with_reducible rfl)
    try simp only [Act.put, List.getElem_toArray, List.getElem_cons_zero, List.getElem_cons_succ, List.setIfInBounds_toArray, List.set_cons_zero, List.set_cons_succ]
    refine wpAnyH_take (i := 7) (oi := _) (v := ?_) rfl (by kernel_rfl) (by kernel_rfl) (by kernel_rfl) (fun _ _ _ h => h) (Or.inl ⟨by rfl, ?_⟩) (by assumption) ?_
    rotate_left
    · (intro w hSw; (try dsimp only at hSw); go_simp; try with_reducible rfl)
    try simp only [Act.put, List.getElem_toArray, List.getElem_cons_zero, List.getElem_cons_succ, List.setIfInBounds_toArray, List.set_cons_zero, List.set_cons_succ]
    refine wpAnyH_take (i := 8) (oi := _) (v := ?_) rfl (by kernel_rfl) (by kernel_rfl) (by kernel_rfl) (fun _ _ _ h => h) (Or.inl ⟨by rfl, ?_⟩) (by assumption) ?_
    rotate_left
    · (intro w hSw; (try dsimp only at hSw); go_simp; try with_reducible rfl)
    try simp only [Act.put, List.getElem_toArray, List.getElem_cons_zero, List.getElem_cons_succ, List.setIfInBounds_toArray, List.set_cons_zero, List.set_cons_succ]
    refine wpAnyH_take (i := 9) (oi := _) (v := ?_) rfl (by kernel_rfl) (by kernel_rfl) (by kernel_rfl) (fun _ _ _ h => h) (Or.inl ⟨by rfl, ?_⟩) (by assumption) ?_
    rotate_left
    · (intro w hSw; (try dsimp only at hSw); go_simp; try with_reducible rfl)
    try simp only [Act.put, List.getElem_toArray, List.getElem_cons_zero, List.getElem_cons_succ, List.setIfInBounds_toArray, List.set_cons_zero, List.set_cons_succ]
    refine wpAnyH_take (i := 10) (oi := _) (v := ?_) rfl (by kernel_rfl) (by kernel_rfl) (by kernel_rfl) (fun _ _ _ h => h) (Or.inl ⟨by rfl, ?_⟩) (by assumption) ?_
    rotate_left
    · (intro w hSw; (try dsimp only at hSw); go_simp; try with_reducible rfl)
    try simp only [Act.put, List.getElem_toArray, List.getElem_cons_zero, List.getElem_cons_succ, List.setIfInBounds_toArray, List.set_cons_zero, List.set_cons_succ]
    refine wpAnyH_take (i := 11) (oi := _) (v := ?_) rfl (by kernel_rfl) (by kernel_rfl) (by kernel_rfl) (fun _ _ _ h => h) (Or.inl ⟨by rfl, ?_⟩) (by assumption) ?_
    rotate_left
    · (intro w hSw; (try dsimp only at hSw); go_simp; try with_reducible rfl)
    try simp only [Act.put, List.getElem_toArray, List.getElem_cons_zero, List.getElem_cons_succ, List.setIfInBounds_toArray, List.set_cons_zero, List.set_cons_succ]
    refine wpAnyH_take (i := 12) (oi := _) (v := ?_) rfl (by kernel_rfl) (by kernel_rfl) (by kernel_rfl) (fun _ _ _ h => h) (Or.inl ⟨by rfl, ?_⟩) (by assumption) ?_
    rotate_left
    · (intro w hSw; (try dsimp only at hSw); go_simp; try with_reducible rfl)
    try simp only [Act.put, List.getElem_toArray, List.getElem_cons_zero, List.getElem_cons_succ, List.setIfInBounds_toArray, List.set_cons_zero, List.set_cons_succ]
    refine wpAnyH_take (i := 13) (oi := _) (v := ?_) rfl (by kernel_rfl) (by kernel_rfl) (by kernel_rfl) (fun _ _ _ h => h) (Or.inl ⟨by rfl, ?_⟩) (by assumption) ?_
    rotate_left
    · (intro w hSw; (try dsimp only at hSw); go_simp; try with_reducible rfl)
    try simp only [Act.put, List.getElem_toArray, List.getElem_cons_zero, List.getElem_cons_succ, List.setIfInBounds_toArray, List.set_cons_zero, List.set_cons_succ]
    refine wpAnyH_take (i := 14) (oi := _) (v := ?_) rfl (by kernel_rfl) (by kernel_rfl) (by kernel_rfl) (fun _ _ _ h => h) (Or.inl ⟨by rfl, ?_⟩) (by assumption) ?_
    rotate_left
    · (intro w hSw; (try dsimp only at hSw); go_simp; try with_reducible rfl)
    try simp only [Act.put, List.getElem_toArray, List.getElem_cons_zero, List.getElem_cons_succ, List.setIfInBounds_toArray, List.set_cons_zero, List.set_cons_succ]
    refine wpAnyH_take (i := 15) (oi := _) (v := ?_) rfl (by kernel_rfl) (by kernel_rfl) (by kernel_rfl) (fun _ _ _ h => h) (Or.inl ⟨by rfl, ?_⟩) (by assumption) ?_
    rotate_left
    · (intro w hSw; (try dsimp only at hSw); go_simp; try with_reducible rfl)
    try simp only [Act.put, List.getElem_toArray, List.getElem_cons_zero, List.getElem_cons_succ, List.setIfInBounds_toArray, List.set_cons_zero, List.set_cons_succ]
    refine wpAnyH_take (i := 16) (oi := _) (v := ?_) rfl (by kernel_rfl) (by kernel_rfl) (by kernel_rfl) (fun _ _ _ h => h) (Or.inl ⟨by rfl, ?_⟩) (by assumption) ?_
    rotate_left
    · (intro w hSw; (try dsimp only at hSw); go_simp; try with_reducible rfl)
    try simp only [Act.put, List.getElem_toArray, List.getElem_cons_zero, List.getElem_cons_succ, List.setIfInBounds_toArray, List.set_cons_zero, List.set_cons_succ]
    refine wpAnyH_take (i := 17) (oi := _) (v := ?_) rfl (by kernel_rfl) (by kernel_rfl) (by kernel_rfl) (fun _ _ _ h => h) (Or.inl ⟨by rfl, ?_⟩) (by assumption) ?_
    rotate_left
    · (intro w hSw; (try dsimp only at hSw); go_simp; try with_reducible rfl)
    try simp only [Act.put, List.getElem_toArray, List.getElem_cons_zero, List.getElem_cons_succ, List.setIfInBounds_toArray, List.set_cons_zero, List.set_cons_succ]
    refine wpAnyH_take (i := 18) (oi := _) (v := ?_) rfl (by kernel_rfl) (by kernel_rfl) (by kernel_rfl) (fun _ _ _ h => h) (Or.inl ⟨by rfl, ?_⟩) (by assumption) ?_
    rotate_left
    · (intro w hSw; (try dsimp only at hSw); go_simp; try with_reducible rfl)
    try simp only [Act.put, List.getElem_toArray, List.getElem_cons_zero, List.getElem_cons_succ, List.setIfInBounds_toArray, List.set_cons_zero, List.set_cons_succ]
    refine wpAnyH_take (i := 19) (oi := _) (v := ?_) rfl (by kernel_rfl) (by kernel_rfl) (by kernel_rfl) (fun _ _ _ h => h) (Or.inl ⟨by rfl, ?_⟩) (by assumption) ?_
    rotate_left
    · (intro w hSw; (try dsimp only at hSw); go_simp; try with_reducible rfl)
    try simp only [Act.put, List.getElem_toArray, List.getElem_cons_zero, List.getElem_cons_succ, List.setIfInBounds_toArray, List.set_cons_zero, List.set_cons_succ]
    refine wpAnyH_ready (rs := [1, 20]) (by kernel_rfl) (by simp) ?_
    refine (AllReadyH.cons (o := _) rfl (fun K hK => ?_) (AllReadyH.cons (o := _) rfl (fun K hK => ?_) AllReadyH.nil))
    · skip
      have hcQ : W.cell? ⟨q, 4, none⟩ = some vP' := by first | exact Blk.cell (hs.at 2 rfl) 4 | exact Blk.cell (hs.at 3 rfl) 4
      go_simp
      try clear hHeld
      refine hK.out _ _ (by (try dsimp only); first | exact ⟨Blk.cell (hs.at 5 rfl) 4, HD.out _ _ hs⟩ | exact ⟨Blk.cell ((hs.grow _).at 5 rfl) 4, HD.out _ _ (hs.grow _)⟩ | exact ⟨Blk.cell (hs.at 4 rfl) 4, HD.out _ _ hs⟩) (fun hHeld => ?_)
      clear hK K
      try simp only [Act.put, List.getElem_toArray, List.getElem_cons_zero, List.getElem_cons_succ, List.setIfInBounds_toArray, List.set_cons_zero, List.set_cons_succ]
      clear hcQ
      refine wpAnyH_ready (rs := [20]) (by kernel_rfl) (by simp) ?_
      refine (AllReadyH.cons (o := _) rfl (fun K hK => ?_) AllReadyH.nil)
      go_simp
      refine (backR I _ W (.slice aV aa.length cV) aa hs HP1.out hz1).mono ?_
      clear hs
      rintro e W ⟨_, _, _, rfl, _, hs, rfl, rfl⟩
      obtain ⟨A8, c8, hv8⟩ := own_form (show World.ownsRow _ 0 54 2 _ _ _ from hs.head)
      subst hv8
      try clear hHeld
      refine hK.out _ _ (by (try dsimp only); first | exact ⟨Blk.cell (hs.at 5 rfl) 4, HD.out _ _ hs⟩ | exact ⟨Blk.cell ((hs.grow _).at 5 rfl) 4, HD.out _ _ (hs.grow _)⟩ | exact ⟨Blk.cell (hs.at 4 rfl) 4, HD.out _ _ hs⟩) (fun hHeld => ?_)
      clear hK K
      try simp only [Act.put, List.getElem_toArray, List.getElem_cons_zero, List.getElem_cons_succ, List.setIfInBounds_toArray, List.set_cons_zero, List.set_cons_succ]
      refine wpAnyH_take (i := 21) (oi := _) (v := ?_) rfl (by kernel_rfl) (by kernel_rfl) (by kernel_rfl) (fun _ _ _ h => h) (Or.inl ⟨by rfl, ?_⟩) (by assumption) ?_
      rotate_left
      · (intro w hSw; (try dsimp only at hSw); go_simp; try with_reducible rfl)
      try simp only [Act.put, List.getElem_toArray, List.getElem_cons_zero, List.getElem_cons_succ, List.setIfInBounds_toArray, List.set_cons_zero, List.set_cons_succ]
      refine wpAnyH_ready (rs := [22]) (by kernel_rfl) (by simp) ?_
      refine (AllReadyH.cons (o := _) rfl (fun K hK => ?_) AllReadyH.nil)
      have hsr := hs.litSrcV (P := Try.prog) (t := 24) (e := 58) (cs := #[.string al, .string ac, .slice A8 aa.length c8]) (n := 1) (size := 3) rfl (by decide) Try.underlying24 (by simp [Value.oneCell'])
      go_simp
      try clear hHeld
      refine hK.out _ _ (by (try dsimp only); first | exact ⟨Blk.cell (hs.at 5 rfl) 4, HD.out _ _ hs⟩ | exact ⟨Blk.cell ((hs.grow _).at 5 rfl) 4, HD.out _ _ (hs.grow _)⟩ | exact ⟨Blk.cell (hs.at 4 rfl) 4, HD.out _ _ hs⟩) (fun hHeld => ?_)
      clear hK K
      try simp only [Act.put, List.getElem_toArray, List.getElem_cons_zero, List.getElem_cons_succ, List.setIfInBounds_toArray, List.set_cons_zero, List.set_cons_succ]
      generalize hw : World.alloc W _ = W at hHeld hsr ⊢
      replace hs := hs.growTo hw
      clear hw
      refine wpAnyH_ready (rs := [23]) (by kernel_rfl) (by simp) ?_
      refine (AllReadyH.cons (o := _) rfl (fun K hK => ?_) AllReadyH.nil)
      replace hs := hs.swap1
      refine step_append_src _ (by rfl) _ _ 24 24 (by rfl) 0 58 i5 (.agg #[.string ⟨#[]⟩, .string ⟨#[]⟩, .slice none 0 0]) 3 56 Try.underlying24 hi5 hz0 hz1' hz2 rfl _ qv.length (flat paC qv) (by rfl) hs.head _ 1 _ (by rfl) hsr (by unfold maxLen; omega) (by omega) (Nat.zero_le _) ?_
      intro v' W hown' hgrow hat
      have hown2 : W.ownsRow 0 58 3 v' (qv.length + 1) (flat paC (qv ++ [((⟨al, ac, aa⟩ : Pa), .slice A8 aa.length c8)])) := by simpa [flat_append, flat] using hown'
      obtain ⟨A10, c10, rfl⟩ := own_form hown2
      replace hs := hs.grown hgrow hown2 hat
      clear hown' hown2 hgrow hat hsr
      try clear hHeld
      refine hK.out _ _ (by (try dsimp only); first | exact ⟨Blk.cell (hs.at 5 rfl) 4, HD.out _ _ hs⟩ | exact ⟨Blk.cell ((hs.grow _).at 5 rfl) 4, HD.out _ _ (hs.grow _)⟩ | exact ⟨Blk.cell (hs.at 4 rfl) 4, HD.out _ _ hs⟩) (fun hHeld => ?_)
      clear hK K
      try simp only [Act.put, List.getElem_toArray, List.getElem_cons_zero, List.getElem_cons_succ, List.setIfInBounds_toArray, List.set_cons_zero, List.set_cons_succ]
      refine wpAnyH_take (i := 24) (oi := _) (v := ?_) rfl (by kernel_rfl) (by kernel_rfl) (by kernel_rfl) (fun _ _ _ h => h) (Or.inl ⟨by rfl, ?_⟩) (by assumption) ?_
      rotate_left
      · (intro w hSw; (try dsimp only at hSw); go_simp; try with_reducible rfl)
      try simp only [Act.put, List.getElem_toArray, List.getElem_cons_zero, List.getElem_cons_succ, List.setIfInBounds_toArray, List.set_cons_zero, List.set_cons_succ]
      refine wpAnyH_ready (rs := [25]) (by kernel_rfl) (by simp) ?_
      refine (AllReadyH.cons (o := _) rfl (fun K hK => ?_) AllReadyH.nil)
      obtain ⟨hcQ, hfQ, hlQ⟩ := Blk.all (hs.at 3 rfl)
      go_simp
      replace hs := hs.set3 4 (.slice A10 (qv.length + 1) c10)
      try clear hHeld
      refine hK.out _ _ (by (try dsimp only); first | exact ⟨Blk.cell (hs.at 5 rfl) 4, HD.out _ _ hs⟩ | exact ⟨Blk.cell ((hs.grow _).at 5 rfl) 4, HD.out _ _ (hs.grow _)⟩ | exact ⟨Blk.cell (hs.at 4 rfl) 4, HD.out _ _ hs⟩) (fun hHeld => ?_)
      clear hK K
      try simp only [Act.put, List.getElem_toArray, List.getElem_cons_zero, List.getElem_cons_succ, List.setIfInBounds_toArray, List.set_cons_zero, List.set_cons_succ]
      clear hcQ hfQ hlQ
      refine wpAnyH_done (by kernel_rfl) ?_ _
      have h5 := (arow_last (TA := 54) (N := [row 58 3 (.slice A10 (qv.length + 1) c10) (qv.length + 1) (flat paC (qv ++ [((⟨al, ac, aa⟩ : Pa), .slice A8 aa.length c8)])), row 54 2 (.slice A9 x.attrs.length c9) x.attrs.length (flat atC x.attrs), bk q 26 (head5 x (.slice A9 x.attrs.length c9) (.slice A10 (qv.length + 1) c10)), bk r 26 zero5, bk b0 33 (head5 x (.slice aA x.attrs.length cA) (.slice (some ⟨g, o, none⟩) pv.length cP))]) qv ((⟨al, ac, aa⟩ : Pa), .slice A8 aa.length c8)).2 hs.swap1
      have HS5 := Lib.hid h5
      clear hs h5
      go_wp2
      go_roundw
      case rel => exact ⟨k + 1, .slice A10 (qv.length + 1) c10, qv ++ [((⟨al, ac, aa⟩ : Pa), .slice A8 aa.length c8)], by omega, by go_num, Lib.hid ⟨by rw [List.length_append, HQ1.out]; rfl, by rw [HTK.out]; simp [partsOf], by rw [List.length_append]; exact HS5.out⟩⟩
      case measure => simp [intOf]; omega
    · skip
      go_simp
      refine (backR I _ W (.slice aV aa.length cV) aa hs HP1.out hz1).mono ?_
      clear hs
      rintro e W ⟨_, _, _, rfl, _, hs, rfl, rfl⟩
      obtain ⟨A8, c8, hv8⟩ := own_form (show World.ownsRow _ 0 54 2 _ _ _ from hs.head)
      subst hv8
      try clear hHeld
      refine hK.out _ _ (by (try dsimp only); first | exact ⟨Blk.cell (hs.at 5 rfl) 4, HD.out _ _ hs⟩ | exact ⟨Blk.cell ((hs.grow _).at 5 rfl) 4, HD.out _ _ (hs.grow _)⟩ | exact ⟨Blk.cell (hs.at 4 rfl) 4, HD.out _ _ hs⟩) (fun hHeld => ?_)
      clear hK K
      try simp only [Act.put, List.getElem_toArray, List.getElem_cons_zero, List.getElem_cons_succ, List.setIfInBounds_toArray, List.set_cons_zero, List.set_cons_succ]
      refine wpAnyH_take (i := 21) (oi := _) (v := ?_) rfl (by kernel_rfl) (by kernel_rfl) (by kernel_rfl) (fun _ _ _ h => h) (Or.inl ⟨by rfl, ?_⟩) (by assumption) ?_
      rotate_left
      · (intro w hSw; (try dsimp only at hSw); go_simp; try with_reducible rfl)
      try simp only [Act.put, List.getElem_toArray, List.getElem_cons_zero, List.getElem_cons_succ, List.setIfInBounds_toArray, List.set_cons_zero, List.set_cons_succ]
      refine wpAnyH_ready (rs := [1, 22]) (by kernel_rfl) (by simp) ?_
      refine (AllReadyH.cons (o := _) rfl (fun K hK => ?_) (AllReadyH.cons (o := _) rfl (fun K hK => ?_) AllReadyH.nil))
      · skip
        have hcQ : W.cell? ⟨q, 4, none⟩ = some vP' := by first | exact Blk.cell (hs.at 2 rfl) 4 | exact Blk.cell (hs.at 3 rfl) 4
        go_simp
        try clear hHeld
        refine hK.out _ _ (by (try dsimp only); first | exact ⟨Blk.cell (hs.at 5 rfl) 4, HD.out _ _ hs⟩ | exact ⟨Blk.cell ((hs.grow _).at 5 rfl) 4, HD.out _ _ (hs.grow _)⟩ | exact ⟨Blk.cell (hs.at 4 rfl) 4, HD.out _ _ hs⟩) (fun hHeld => ?_)
        clear hK K
        try simp only [Act.put, List.getElem_toArray, List.getElem_cons_zero, List.getElem_cons_succ, List.setIfInBounds_toArray, List.set_cons_zero, List.set_cons_succ]
        clear hcQ
        refine wpAnyH_ready (rs := [22]) (by kernel_rfl) (by simp) ?_
        refine (AllReadyH.cons (o := _) rfl (fun K hK => ?_) AllReadyH.nil)
        have hsr := hs.litSrcV (P := Try.prog) (t := 24) (e := 58) (cs := #[.string al, .string ac, .slice A8 aa.length c8]) (n := 1) (size := 3) rfl (by decide) Try.underlying24 (by simp [Value.oneCell'])
        go_simp
        try clear hHeld
        refine hK.out _ _ (by (try dsimp only); first | exact ⟨Blk.cell (hs.at 5 rfl) 4, HD.out _ _ hs⟩ | exact ⟨Blk.cell ((hs.grow _).at 5 rfl) 4, HD.out _ _ (hs.grow _)⟩ | exact ⟨Blk.cell (hs.at 4 rfl) 4, HD.out _ _ hs⟩) (fun hHeld => ?_)
        clear hK K
        try simp only [Act.put, List.getElem_toArray, List.getElem_cons_zero, List.getElem_cons_succ, List.setIfInBounds_toArray, List.set_cons_zero, List.set_cons_succ]
        generalize hw : World.alloc W _ = W at hHeld hsr ⊢
        replace hs := hs.growTo hw
        clear hw
        refine wpAnyH_ready (rs := [23]) (by kernel_rfl) (by simp) ?_
        refine (AllReadyH.cons (o := _) rfl (fun K hK => ?_) AllReadyH.nil)
        replace hs := hs.swap1
        refine step_append_src _ (by rfl) _ _ 24 24 (by rfl) 0 58 i5 (.agg #[.string ⟨#[]⟩, .string ⟨#[]⟩, .slice none 0 0]) 3 56 Try.underlying24 hi5 hz0 hz1' hz2 rfl _ qv.length (flat paC qv) (by rfl) hs.head _ 1 _ (by rfl) hsr (by unfold maxLen; omega) (by omega) (Nat.zero_le _) ?_
        intro v' W hown' hgrow hat
        have hown2 : W.ownsRow 0 58 3 v' (qv.length + 1) (flat paC (qv ++ [((⟨al, ac, aa⟩ : Pa), .slice A8 aa.length c8)])) := by simpa [flat_append, flat] using hown'
        obtain ⟨A10, c10, rfl⟩ := own_form hown2
        replace hs := hs.grown hgrow hown2 hat
        clear hown' hown2 hgrow hat hsr
        try clear hHeld
        refine hK.out _ _ (by (try dsimp only); first | exact ⟨Blk.cell (hs.at 5 rfl) 4, HD.out _ _ hs⟩ | exact ⟨Blk.cell ((hs.grow _).at 5 rfl) 4, HD.out _ _ (hs.grow _)⟩ | exact ⟨Blk.cell (hs.at 4 rfl) 4, HD.out _ _ hs⟩) (fun hHeld => ?_)
        clear hK K
        try simp only [Act.put, List.getElem_toArray, List.getElem_cons_zero, List.getElem_cons_succ, List.setIfInBounds_toArray, List.set_cons_zero, List.set_cons_succ]
        refine wpAnyH_take (i := 24) (oi := _) (v := ?_) rfl (by kernel_rfl) (by kernel_rfl) (by kernel_rfl) (fun _ _ _ h => h) (Or.inl ⟨by rfl, ?_⟩) (by assumption) ?_
        rotate_left
        · (intro w hSw; (try dsimp only at hSw); go_simp; try with_reducible rfl)
        try simp only [Act.put, List.getElem_toArray, List.getElem_cons_zero, List.getElem_cons_succ, List.setIfInBounds_toArray, List.set_cons_zero, List.set_cons_succ]
        refine wpAnyH_ready (rs := [25]) (by kernel_rfl) (by simp) ?_
        refine (AllReadyH.cons (o := _) rfl (fun K hK => ?_) AllReadyH.nil)
        obtain ⟨hcQ, hfQ, hlQ⟩ := Blk.all (hs.at 3 rfl)
        go_simp
        replace hs := hs.set3 4 (.slice A10 (qv.length + 1) c10)
        try clear hHeld
        refine hK.out _ _ (by (try dsimp only); first | exact ⟨Blk.cell (hs.at 5 rfl) 4, HD.out _ _ hs⟩ | exact ⟨Blk.cell ((hs.grow _).at 5 rfl) 4, HD.out _ _ (hs.grow _)⟩ | exact ⟨Blk.cell (hs.at 4 rfl) 4, HD.out _ _ hs⟩) (fun hHeld => ?_)
        clear hK K
        try simp only [Act.put, List.getElem_toArray, List.getElem_cons_zero, List.getElem_cons_succ, List.setIfInBounds_toArray, List.set_cons_zero, List.set_cons_succ]
        clear hcQ hfQ hlQ
        refine wpAnyH_done (by kernel_rfl) ?_ _
        have h5 := (arow_last (TA := 54) (N := [row 58 3 (.slice A10 (qv.length + 1) c10) (qv.length + 1) (flat paC (qv ++ [((⟨al, ac, aa⟩ : Pa), .slice A8 aa.length c8)])), row 54 2 (.slice A9 x.attrs.length c9) x.attrs.length (flat atC x.attrs), bk q 26 (head5 x (.slice A9 x.attrs.length c9) (.slice A10 (qv.length + 1) c10)), bk r 26 zero5, bk b0 33 (head5 x (.slice aA x.attrs.length cA) (.slice (some ⟨g, o, none⟩) pv.length cP))]) qv ((⟨al, ac, aa⟩ : Pa), .slice A8 aa.length c8)).2 hs.swap1
        have HS5 := Lib.hid h5
        clear hs h5
        go_wp2
        go_roundw
        case rel => exact ⟨k + 1, .slice A10 (qv.length + 1) c10, qv ++ [((⟨al, ac, aa⟩ : Pa), .slice A8 aa.length c8)], by omega, by go_num, Lib.hid ⟨by rw [List.length_append, HQ1.out]; rfl, by rw [HTK.out]; simp [partsOf], by rw [List.length_append]; exact HS5.out⟩⟩
        case measure => simp [intOf]; omega
      · skip
        have hsr := hs.litSrcV (P := Try.prog) (t := 24) (e := 58) (cs := #[.string al, .string ac, .slice A8 aa.length c8]) (n := 1) (size := 3) rfl (by decide) Try.underlying24 (by simp [Value.oneCell'])
        go_simp
        try clear hHeld
        refine hK.out _ _ (by (try dsimp only); first | exact ⟨Blk.cell (hs.at 5 rfl) 4, HD.out _ _ hs⟩ | exact ⟨Blk.cell ((hs.grow _).at 5 rfl) 4, HD.out _ _ (hs.grow _)⟩ | exact ⟨Blk.cell (hs.at 4 rfl) 4, HD.out _ _ hs⟩) (fun hHeld => ?_)
        clear hK K
        try simp only [Act.put, List.getElem_toArray, List.getElem_cons_zero, List.getElem_cons_succ, List.setIfInBounds_toArray, List.set_cons_zero, List.set_cons_succ]
        generalize hw : World.alloc W _ = W at hHeld hsr ⊢
        replace hs := hs.growTo hw
        clear hw
        refine wpAnyH_ready (rs := [1]) (by kernel_rfl) (by simp) ?_
        refine (AllReadyH.cons (o := _) rfl (fun K hK => ?_) AllReadyH.nil)
        have hcQ : W.cell? ⟨q, 4, none⟩ = some vP' := by first | exact Blk.cell (hs.at 2 rfl) 4 | exact Blk.cell (hs.at 3 rfl) 4
        go_simp
        try clear hHeld
        refine hK.out _ _ (by (try dsimp only); first | exact ⟨Blk.cell (hs.at 5 rfl) 4, HD.out _ _ hs⟩ | exact ⟨Blk.cell ((hs.grow _).at 5 rfl) 4, HD.out _ _ (hs.grow _)⟩ | exact ⟨Blk.cell (hs.at 4 rfl) 4, HD.out _ _ hs⟩) (fun hHeld => ?_)
        clear hK K
        try simp only [Act.put, List.getElem_toArray, List.getElem_cons_zero, List.getElem_cons_succ, List.setIfInBounds_toArray, List.set_cons_zero, List.set_cons_succ]
        clear hcQ
        refine wpAnyH_ready (rs := [23]) (by kernel_rfl) (by simp) ?_
        refine (AllReadyH.cons (o := _) rfl (fun K hK => ?_) AllReadyH.nil)
        replace hs := hs.swap1
        refine step_append_src _ (by rfl) _ _ 24 24 (by rfl) 0 58 i5 (.agg #[.string ⟨#[]⟩, .string ⟨#[]⟩, .slice none 0 0]) 3 56 Try.underlying24 hi5 hz0 hz1' hz2 rfl _ qv.length (flat paC qv) (by rfl) hs.head _ 1 _ (by rfl) hsr (by unfold maxLen; omega) (by omega) (Nat.zero_le _) ?_
        intro v' W hown' hgrow hat
        have hown2 : W.ownsRow 0 58 3 v' (qv.length + 1) (flat paC (qv ++ [((⟨al, ac, aa⟩ : Pa), .slice A8 aa.length c8)])) := by simpa [flat_append, flat] using hown'
        obtain ⟨A10, c10, rfl⟩ := own_form hown2
        replace hs := hs.grown hgrow hown2 hat
        clear hown' hown2 hgrow hat hsr
        try clear hHeld
        refine hK.out _ _ (by (try dsimp only); first | exact ⟨Blk.cell (hs.at 5 rfl) 4, HD.out _ _ hs⟩ | exact ⟨Blk.cell ((hs.grow _).at 5 rfl) 4, HD.out _ _ (hs.grow _)⟩ | exact ⟨Blk.cell (hs.at 4 rfl) 4, HD.out _ _ hs⟩) (fun hHeld => ?_)
        clear hK K
        try simp only [Act.put, List.getElem_toArray, List.getElem_cons_zero, List.getElem_cons_succ, List.setIfInBounds_toArray, List.set_cons_zero, List.set_cons_succ]
        refine wpAnyH_take (i := 24) (oi := _) (v := ?_) rfl (by kernel_rfl) (by kernel_rfl) (by kernel_rfl) (fun _ _ _ h => h) (Or.inl ⟨by rfl, ?_⟩) (by assumption) ?_
        rotate_left
        · (intro w hSw; (try dsimp only at hSw); go_simp; try with_reducible rfl)
        try simp only [Act.put, List.getElem_toArray, List.getElem_cons_zero, List.getElem_cons_succ, List.setIfInBounds_toArray, List.set_cons_zero, List.set_cons_succ]
        refine wpAnyH_ready (rs := [25]) (by kernel_rfl) (by simp) ?_
        refine (AllReadyH.cons (o := _) rfl (fun K hK => ?_) AllReadyH.nil)
        obtain ⟨hcQ, hfQ, hlQ⟩ := Blk.all (hs.at 3 rfl)
        go_simp
        replace hs := hs.set3 4 (.slice A10 (qv.length + 1) c10)
        try clear hHeld
        refine hK.out _ _ (by (try dsimp only); first | exact ⟨Blk.cell (hs.at 5 rfl) 4, HD.out _ _ hs⟩ | exact ⟨Blk.cell ((hs.grow _).at 5 rfl) 4, HD.out _ _ (hs.grow _)⟩ | exact ⟨Blk.cell (hs.at 4 rfl) 4, HD.out _ _ hs⟩) (fun hHeld => ?_)
        clear hK K
        try simp only [Act.put, List.getElem_toArray, List.getElem_cons_zero, List.getElem_cons_succ, List.setIfInBounds_toArray, List.set_cons_zero, List.set_cons_succ]
        clear hcQ hfQ hlQ
        refine wpAnyH_done (by kernel_rfl) ?_ _
        have h5 := (arow_last (TA := 54) (N := [row 58 3 (.slice A10 (qv.length + 1) c10) (qv.length + 1) (flat paC (qv ++ [((⟨al, ac, aa⟩ : Pa), .slice A8 aa.length c8)])), row 54 2 (.slice A9 x.attrs.length c9) x.attrs.length (flat atC x.attrs), bk q 26 (head5 x (.slice A9 x.attrs.length c9) (.slice A10 (qv.length + 1) c10)), bk r 26 zero5, bk b0 33 (head5 x (.slice aA x.attrs.length cA) (.slice (some ⟨g, o, none⟩) pv.length cP))]) qv ((⟨al, ac, aa⟩ : Pa), .slice A8 aa.length c8)).2 hs.swap1
        have HS5 := Lib.hid h5
        clear hs h5
        go_wp2
        go_roundw
        case rel => exact ⟨k + 1, .slice A10 (qv.length + 1) c10, qv ++ [((⟨al, ac, aa⟩ : Pa), .slice A8 aa.length c8)], by omega, by go_num, Lib.hid ⟨by rw [List.length_append, HQ1.out]; rfl, by rw [HTK.out]; simp [partsOf], by rw [List.length_append]; exact HS5.out⟩⟩
        case measure => simp [intOf]; omega
end Go.Proofs.Ytpbbincgddmbiaa
