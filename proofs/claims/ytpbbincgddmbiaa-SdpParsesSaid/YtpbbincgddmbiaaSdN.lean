/- SdpParses. -/
import Derived.Test.YtpbbincgddmbiaaSdE
import Derived.Test.YtpbbincgddmbiaaSdI
import Derived.Test.YtpbbincgddmbiaaSdL
import Derived.Test.YtpbbincgddmbiaaSdM
namespace Go.Proofs.Ytpbbincgddmbiaa
open Go.RowKit
set_option linter.unusedSimpArgs false

/-- what is parsed keeps its limits -/
structure OkS (x : Ss) : Prop where
  own : x.attrs.length ≤ 64
  few : x.parts.length ≤ 8
  each : ∀ p ∈ x.parts, p.attrs.length ≤ 64
theorem OkS.no : OkS noSs := ⟨by simp [noSs], by simp [noSs], fun p hp => by cases hp⟩
theorem OkS.add {x : Ss} (h : OkS x) (a : At) (hl : placeLen x < 64) : OkS (addAttr x a) := by
  refine ⟨?_, by rw [parts_add]; exact h.few, ?_⟩
  · unfold addAttr
    cases e : x.parts.getLast? with
    | none =>
      unfold placeLen at hl
      rw [e] at hl
      simp only [List.length_append, List.length_singleton]
      exact hl
    | some p => exact h.own
  · unfold addAttr
    cases e : x.parts.getLast? with
    | none => exact h.each
    | some p =>
      unfold placeLen at hl
      rw [e] at hl
      intro y hy
      rcases List.mem_append.1 hy with hy | hy
      · exact h.each y (List.dropLast_subset _ hy)
      · obtain rfl := List.mem_singleton.1 hy
        simp only [List.length_append, List.length_singleton]
        exact hl
theorem OkS.conn {x : Ss} (h : OkS x) (v : ByteArray) : OkS (setConn x v) := by
  unfold setConn
  cases e : x.parts.getLast? with
  | none => exact h
  | some p =>
    have hm : p ∈ x.parts := List.mem_of_getLast? e
    have h0 : 0 < x.parts.length := List.length_pos_of_mem hm
    refine ⟨h.own, ?_, ?_⟩
    · have := h.few
      simp only [List.length_append, List.length_dropLast, List.length_singleton]
      omega
    · intro y hy
      rcases List.mem_append.1 hy with hy | hy
      · exact h.each y (List.dropLast_subset _ hy)
      · obtain rfl := List.mem_singleton.1 hy
        exact h.each p hm
theorem OkS.step {n : Nat} {c d : Bool} {x y : Ss} {l : List UInt8} (h : OkS x) (e : stepS n c x l = .ok (y, d)) (hp : placeLen x ≤ 64) : OkS y := by
  cases hb : lineB l
  · rw [step_bad hb] at e
    cases e
  obtain ⟨k, v, rfl⟩ := lineB_form hb
  have e2 : (if n = 0 then (if k = 118 ∧ v = [48] then .ok (x, c) else .error 2)
    else if n = 1 then (if k = 111 ∧ valB (bsA v) 200 = true then .ok ({ x with origin := bsA v }, c) else .error 2)
    else if n = 2 then (if k = 115 ∧ valB (bsA v) 200 = true then .ok ({ x with name := bsA v }, c) else .error 2)
    else if n = 3 then (if k = 116 ∧ valB (bsA v) 200 = true then .ok ({ x with time := bsA v }, c) else .error 2)
    else if k = 97 then (if (attrS v).2 = false then .error 2 else if placeLen x = 64 then .error 3 else .ok (addAttr x (attrS v).1, false))
    else if k = 109 ∧ valB (bsA v) 200 = true then (if x.parts.length = 8 then .error 3 else .ok ({ x with parts := x.parts ++ [⟨bsA v, ⟨#[]⟩, []⟩] }, true))
    else if k = 99 ∧ c = true ∧ valB (bsA v) 200 = true then .ok (setConn x (bsA v), false)
    else (.error 2 : Except Int (Ss × Bool))) = .ok (y, d) := e
  clear e
  repeat' split at e2
  all_goals first | cases e2 | skip
  · exact h
  · exact ⟨h.own, h.few, h.each⟩
  · exact ⟨h.own, h.few, h.each⟩
  · exact ⟨h.own, h.few, h.each⟩
  · exact h.add _ (by omega)
  · refine ⟨h.own, ?_, ?_⟩
    · have := h.few
      simp only [List.length_append, List.length_singleton]
      omega
    · intro p hp
      rcases List.mem_append.1 hp with hp | hp
      · exact h.each p hp
      · obtain rfl := List.mem_singleton.1 hp
        exact Nat.zero_le _
  · exact h.conn _
theorem OkS.place {x : Ss} (h : OkS x) : placeLen x ≤ 64 := by
  unfold placeLen
  cases e : x.parts.getLast? with
  | none => exact h.own
  | some p => exact h.each p (List.mem_of_getLast? e)
theorem OkS.run : ∀ (ls : List (List UInt8)) (n : Nat) (c : Bool) (x y : Ss), OkS x → runS ls n c x = .ok y → OkS y
  | [], _, _, x, y, h, e => by cases e; exact h
  | l :: r, n, c, x, y, h, e => by
    unfold runS at e
    cases hs : stepS n c x l with
    | error er => rw [hs] at e; cases e
    | ok p =>
      obtain ⟨z, d⟩ := p
      rw [hs] at e
      exact OkS.run r (n + 1) d z y (h.step hs h.place) e
theorem OkS.parse (s : List UInt8) : OkS (parseS s).1 := by
  unfold parseS
  split
  · exact OkS.no
  · split
    · exact OkS.no
    · rename_i y hy
      split
      · exact OkS.no
      · exact OkS.run _ _ _ _ _ OkS.no hy
theorem twoKeep {w : World} {b c : Nat} {x : Ss} {vA vP vB vQ : Value} (h1 : Blk w b 33 (head5 x vA vP)) (h2 : Blk w c 26 (head5 x vB vQ)) :
    (w.cell? ⟨b, 0, none⟩ = some (.string x.origin) ∧ w.cell? ⟨b, 1, none⟩ = some (.string x.name) ∧ w.cell? ⟨b, 2, none⟩ = some (.string x.time) ∧ w.cell? ⟨b, 3, none⟩ = some vA ∧ w.cell? ⟨b, 4, none⟩ = some vP) ∧
    (w.cell? ⟨c, 0, none⟩ = some (.string x.origin) ∧ w.cell? ⟨c, 1, none⟩ = some (.string x.name) ∧ w.cell? ⟨c, 2, none⟩ = some (.string x.time) ∧ w.cell? ⟨c, 3, none⟩ = some vB ∧ w.cell? ⟨c, 4, none⟩ = some vQ) := ⟨headoursKeep h1, headtheirsKeep h2⟩
set_option maxRecDepth 8000 in
set_option maxHeartbeats 8000000 in
theorem law3 (I : Img) (M : List Res) (w : World) (m : Int) (s : ByteArray) (hst : St I M w) (hm : I.cell? ⟨0, 0, none⟩ = some (.int .i64 m)) (hz : s.size ≤ maxLen) :
    Calls Try.prog 3 #[.string s] w (Yes I M) := by
  have HA := Lib.hid (awakeP I M w m hst hm)
  have HM := Lib.hid hm
  obtain ⟨R, hR⟩ : ∃ R, R = parseS s.data.toList := ⟨_, rfl⟩
  have hok : OkS R.1 := by rw [hR]; exact OkS.parse _
  have HR := Lib.hid hR
  obtain ⟨x, n, er⟩ := R
  have HOK := Lib.hid hok
  clear hst hm hR hok
  go_enter Try.func3, Try.ntmps3
  go_upto_region 3 with (go_at_call 8; refine HA.out.mono ?_; clear HA; rintro e w2 ⟨_, _, M2, rfl, hle, hs2, rfl, hM⟩; rw [hM] at hs2; have HS := Lib.hid (hs2.less hle); clear hs2 hle hM M2)
  go_upto_region 4 with (go_at_call 9; refine (parseR I M _ s HS.out hz).mono ?_; rw [← HR.out]; clear HS; rintro e w3 ⟨_, _, _, rfl, _, hs3, rfl, vA, vP, pv, hpv, rfl, rfl⟩; obtain ⟨J1, hle1, hs4, hses1⟩ := freezeSes hs3 hpv; obtain ⟨aA, cA, rfl, _⟩ := hses1.attrs; obtain ⟨aP, cP, rfl, _⟩ := hses1.parts; have HS := Lib.hid (hs4.alloc 26 #[.string x.origin, .string x.name, .string x.time, .slice aA x.attrs.length cA, .slice aP pv.length cP]); have HL1 := Lib.hid hle1; have SES1 := Lib.hid hses1; clear hs3 hs4 hle1 hses1 hpv; dsimp only [head5])
  obtain ⟨p1, hp1⟩ : ∃ p, p = w3.heap.size := ⟨_, rfl⟩
  rw [← hp1] at HS ⊢
  clear hp1
  go_upto_region 5 with (go_at_call 10; refine (parseP J1 _ _ s m HS.out (HL1.out.cell HM.out) hz).mono ?_; rw [← HR.out]; clear HS; rintro e w5 ⟨_, _, _, rfl, _, hs5, rfl, vB, vQ, qv, hqv, rfl, rfl⟩; obtain ⟨J2, hle2, hs6, hses2⟩ := freezeSes hs5 hqv; obtain ⟨aB, cB, rfl, _⟩ := hses2.attrs; obtain ⟨aQ, cQ, rfl, _⟩ := hses2.parts; have HS := Lib.hid (hs6.alloc 33 #[.string x.origin, .string x.name, .string x.time, .slice aB x.attrs.length cB, .slice aQ qv.length cQ]); have HL2 := Lib.hid hle2; have SES2 := Lib.hid hses2; clear hs5 hs6 hle2 hses2 hqv; dsimp only [head5])
  obtain ⟨p2, hp2⟩ : ∃ p, p = w5.heap.size := ⟨_, rfl⟩
  rw [← hp2] at HS ⊢
  clear hp2
  have hs := HS.out.drew
  clear HS
  have hpl : pv.length ≤ 8 := by have h := SES1.out.same; have h2 := HOK.out.few; have h3 : pv.length = x.parts.length := by rw [← h]; simp [partsOf]
                                 omega
  have hql : qv.length ≤ 8 := by have h := SES2.out.same; have h2 := HOK.out.few; have h3 : qv.length = x.parts.length := by rw [← h]; simp [partsOf]
                                 omega
  have HPE := Lib.hid (show ∀ p ∈ pv, p.1.attrs.length ≤ 64 from fun p hp => HOK.out.each p.1 (by show p.1 ∈ x.parts; rw [← SES1.out.same]; exact List.mem_map_of_mem hp))
  have HQE := Lib.hid (show ∀ p ∈ qv, p.1.attrs.length ≤ 64 from fun p hp => HOK.out.each p.1 (by show p.1 ∈ x.parts; rw [← SES2.out.same]; exact List.mem_map_of_mem hp))
  have hown := HOK.out.own
  refine wp_region_held_drew (S := (fun w' => (w'.cell? ⟨p2, 0, none⟩ = some (.string x.origin) ∧ w'.cell? ⟨p2, 1, none⟩ = some (.string x.name) ∧ w'.cell? ⟨p2, 2, none⟩ = some (.string x.time) ∧ w'.cell? ⟨p2, 3, none⟩ = some (.slice aB x.attrs.length cB) ∧ w'.cell? ⟨p2, 4, none⟩ = some (.slice aQ qv.length cQ)) ∧ (w'.cell? ⟨p1, 0, none⟩ = some (.string x.origin) ∧ w'.cell? ⟨p1, 1, none⟩ = some (.string x.name) ∧ w'.cell? ⟨p1, 2, none⟩ = some (.string x.time) ∧ w'.cell? ⟨p1, 3, none⟩ = some (.slice aA x.attrs.length cA) ∧ w'.cell? ⟨p1, 4, none⟩ = some (.slice aP pv.length cP)))) (by kernel_rfl) (by (try dsimp only); exact twoKeep (hs.at 0 rfl) (hs.at 1 rfl)) (fun hHeld => ?_)
  generalize World.drew _ = W at hs hHeld ⊢
  refine wpAnyH_take (i := 0) (oi := _) (v := ?_) rfl (by kernel_rfl) (by kernel_rfl) (by kernel_rfl) (fun _ _ _ h => h) (Or.inl ⟨by rfl, ?_⟩) (by assumption) ?_
  rotate_left
  · (intro w hSw; (try dsimp only at hSw); go_simp; try with_reducible rfl)
  try simp only [Act.put, List.getElem_toArray, List.getElem_cons_zero, List.getElem_cons_succ, List.setIfInBounds_toArray, List.set_cons_zero, List.set_cons_succ]
  refine wpAnyH_take (i := 1) (oi := _) (v := ?_) rfl (by kernel_rfl) (by kernel_rfl) (by kernel_rfl) (fun _ _ _ h => h) (Or.inl ⟨by rfl, ?_⟩) (by assumption) ?_
  rotate_left
  · (intro w hSw; (try dsimp only at hSw); go_simp; try with_reducible rfl)
  try simp only [Act.put, List.getElem_toArray, List.getElem_cons_zero, List.getElem_cons_succ, List.setIfInBounds_toArray, List.set_cons_zero, List.set_cons_succ]
  refine wpAnyH_take (i := 2) (oi := _) (v := ?_) rfl (by kernel_rfl) (by kernel_rfl) (by kernel_rfl) (fun _ _ _ h => h) (Or.inl ⟨by rfl, ?_⟩) (by assumption) ?_
  rotate_left
  · (intro w hSw; (try dsimp only at hSw); go_simp; try with_reducible rfl)
  try simp only [Act.put, List.getElem_toArray, List.getElem_cons_zero, List.getElem_cons_succ, List.setIfInBounds_toArray, List.set_cons_zero, List.set_cons_succ]
  refine wpAnyH_take (i := 3) (oi := _) (v := ?_) rfl (by kernel_rfl) (by kernel_rfl) (by kernel_rfl) (fun _ _ _ h => h) (Or.inl ⟨by rfl, ?_⟩) (by assumption) ?_
  rotate_left
  · (intro w hSw; (try dsimp only at hSw); go_simp; try with_reducible rfl)
  try simp only [Act.put, List.getElem_toArray, List.getElem_cons_zero, List.getElem_cons_succ, List.setIfInBounds_toArray, List.set_cons_zero, List.set_cons_succ]
  refine wpAnyH_take (i := 4) (oi := _) (v := ?_) rfl (by kernel_rfl) (by kernel_rfl) (by kernel_rfl) (fun _ _ _ h => h) (Or.inl ⟨by rfl, ?_⟩) (by assumption) ?_
  rotate_left
  · (intro w hSw; (try dsimp only at hSw); go_simp; try with_reducible rfl)
  try simp only [Act.put, List.getElem_toArray, List.getElem_cons_zero, List.getElem_cons_succ, List.setIfInBounds_toArray, List.set_cons_zero, List.set_cons_succ]
  refine wpAnyH_take (i := 5) (oi := _) (v := ?_) rfl (by kernel_rfl) (by kernel_rfl) (by kernel_rfl) (fun _ _ _ h => h) (Or.inl ⟨by rfl, ?_⟩) (by assumption) ?_
  rotate_left
  · (intro w hSw; (try dsimp only at hSw); go_simp; try with_reducible rfl)
  try simp only [Act.put, List.getElem_toArray, List.getElem_cons_zero, List.getElem_cons_succ, List.setIfInBounds_toArray, List.set_cons_zero, List.set_cons_succ]
  refine wpAnyH_take (i := 6) (oi := _) (v := ?_) rfl (by kernel_rfl) (by kernel_rfl) (by kernel_rfl) (fun _ _ _ h => h) (Or.inl ⟨by rfl, ?_⟩) (by assumption) ?_
  rotate_left
  · (intro w hSw; (try dsimp only at hSw); go_simp; try with_reducible rfl)
  try simp only [Act.put, List.getElem_toArray, List.getElem_cons_zero, List.getElem_cons_succ, List.setIfInBounds_toArray, List.set_cons_zero, List.set_cons_succ]
  refine wpAnyH_take (i := 7) (oi := _) (v := ?_) rfl (by kernel_rfl) (by kernel_rfl) (by kernel_rfl) (fun _ _ _ h => h) (Or.inl ⟨by rfl, ?_⟩) (by assumption) ?_
  rotate_left
  · (intro w hSw; (try dsimp only at hSw); go_simp; try with_reducible rfl)
  try simp only [Act.put, List.getElem_toArray, List.getElem_cons_zero, List.getElem_cons_succ, List.setIfInBounds_toArray, List.set_cons_zero, List.set_cons_succ]
  refine wpAnyH_take (i := 8) (oi := _) (v := ?_) rfl (by kernel_rfl) (by kernel_rfl) (by kernel_rfl) (fun _ _ _ h => h) (Or.inl ⟨by rfl, ?_⟩) (by assumption) ?_
  rotate_left
  · (intro w hSw; (try dsimp only at hSw); go_simp; try with_reducible rfl)
  try simp only [Act.put, List.getElem_toArray, List.getElem_cons_zero, List.getElem_cons_succ, List.setIfInBounds_toArray, List.set_cons_zero, List.set_cons_succ]
  refine wpAnyH_take (i := 9) (oi := _) (v := ?_) rfl (by kernel_rfl) (by kernel_rfl) (by kernel_rfl) (fun _ _ _ h => h) (Or.inl ⟨by rfl, ?_⟩) (by assumption) ?_
  rotate_left
  · (intro w hSw; (try dsimp only at hSw); go_simp; try with_reducible rfl)
  try simp only [Act.put, List.getElem_toArray, List.getElem_cons_zero, List.getElem_cons_succ, List.setIfInBounds_toArray, List.set_cons_zero, List.set_cons_succ]
  refine wpAnyH_take (i := 11) (oi := _) (v := ?_) rfl (by kernel_rfl) (by kernel_rfl) (by kernel_rfl) (fun _ _ _ h => h) (Or.inl ⟨by rfl, ?_⟩) (by assumption) ?_
  rotate_left
  · (intro w hSw; (try dsimp only at hSw); go_simp; try with_reducible rfl)
  try simp only [Act.put, List.getElem_toArray, List.getElem_cons_zero, List.getElem_cons_succ, List.setIfInBounds_toArray, List.set_cons_zero, List.set_cons_succ]
  refine wpAnyH_ready (rs := [10]) (by kernel_rfl) (by simp) ?_
  refine (AllReadyH.cons (o := _) rfl (fun K hK => ?_) AllReadyH.nil)
  go_simp
  refine (oursR J2 _ W (.slice aB x.attrs.length cB) (.slice aQ qv.length cQ) x qv hs SES2.out (by show x.attrs.length * 32 ≤ _; omega) (by omega) (fun p hp => by have := HQE.out p hp; omega)).mono ?_
  clear hs
  rintro e W ⟨_, _, _, rfl, _, hs0, rfl, vC, vR, rv, hrv, rfl, rfl⟩
  obtain ⟨J3, hle3, hs, hses3⟩ := freezeSes hs0 hrv
  have HL3 := Lib.hid hle3
  have SES3 := Lib.hid hses3
  clear hs0 hle3 hses3 hrv
  try clear hHeld
  refine hK.out _ _ (by (try dsimp only); exact twoKeep (hs.at 0 rfl) (hs.at 1 rfl)) (fun hHeld => ?_)
  clear hK K
  try simp only [Act.put, List.getElem_toArray, List.getElem_cons_zero, List.getElem_cons_succ, List.setIfInBounds_toArray, List.set_cons_zero, List.set_cons_succ]
  refine wpAnyH_ready (rs := [12]) (by kernel_rfl) (by simp) ?_
  refine (AllReadyH.cons (o := _) rfl (fun K hK => ?_) AllReadyH.nil)
  go_simp
  refine (sameR J3 _ W vC vR (.slice aA x.attrs.length cA) (.slice aP pv.length cP) x x rv pv hs SES3.out ((SES1.out.mono HL2.out).mono HL3.out) (by omega) (by omega) (by have h := SES3.out.same; have h2 := HOK.out.few; have h3 : rv.length = x.parts.length := (by rw [← h]; simp [partsOf]); omega) (by omega) (fun p hp => by have := HOK.out.each p.1 (by show p.1 ∈ x.parts; rw [← SES3.out.same]; exact List.mem_map_of_mem hp); omega) (fun p hp => by have := HPE.out p hp; omega)).mono ?_
  clear hs
  rintro e W ⟨_, _, _, rfl, _, hs, rfl, ⟨b, rfl, hb⟩, rfl⟩
  obtain rfl : b = true := hb.2 rfl
  clear hb
  try clear hHeld
  refine hK.out _ _ (by (try dsimp only); exact twoKeep (hs.at 0 rfl) (hs.at 1 rfl)) (fun hHeld => ?_)
  clear hK K
  try simp only [Act.put, List.getElem_toArray, List.getElem_cons_zero, List.getElem_cons_succ, List.setIfInBounds_toArray, List.set_cons_zero, List.set_cons_succ]
  refine wpAnyH_take (i := 13) (oi := _) (v := ?_) rfl (by kernel_rfl) (by kernel_rfl) (by kernel_rfl) (fun _ _ _ h => h) (Or.inl ⟨by rfl, ?_⟩) (by assumption) ?_
  rotate_left
  · (intro w hSw; (try dsimp only at hSw); go_simp; try with_reducible rfl)
  try simp only [Act.put, List.getElem_toArray, List.getElem_cons_zero, List.getElem_cons_succ, List.setIfInBounds_toArray, List.set_cons_zero, List.set_cons_succ]
  refine wpAnyH_take (i := 14) (oi := _) (v := ?_) rfl (by kernel_rfl) (by kernel_rfl) (by kernel_rfl) (fun _ _ _ h => h) (Or.inl ⟨by rfl, ?_⟩) (by assumption) ?_
  rotate_left
  · (intro w hSw; (try dsimp only at hSw); go_simp; try with_reducible rfl)
  try simp only [Act.put, List.getElem_toArray, List.getElem_cons_zero, List.getElem_cons_succ, List.setIfInBounds_toArray, List.set_cons_zero, List.set_cons_succ]
  refine wpAnyH_done (by kernel_rfl) ?_ _
  have HS9 := Lib.hid hs
  clear hs
  go_wp2
  go_returns
  exact Ret.mk ((HL1.out.trans HL2.out).trans HL3.out) HS9.out.drop.drop ⟨rfl, rfl⟩
end Go.Proofs.Ytpbbincgddmbiaa
