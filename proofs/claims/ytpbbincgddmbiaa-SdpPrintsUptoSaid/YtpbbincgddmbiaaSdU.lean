/- SdpBack. -/
import Derived.Test.YtpbbincgddmbiaaSdT
import Derived.Test.YtpbbincgddmbiaaSdI
import Derived.Test.YtpbbincgddmbiaaSdL
import Derived.Test.YtpbbincgddmbiaaSdM
namespace Go.Proofs.Ytpbbincgddmbiaa
open Go.RowKit
set_option linter.unusedSimpArgs false

theorem step_codes {i : Nat} {c : Bool} {x : Ss} {l : List UInt8} {e : Int} (h : stepS i c x l = .error e) : e = 2 ∨ e = 3 := by
  cases hb : lineB l
  · rw [step_bad hb] at h
    injection h with h
    omega
  obtain ⟨k, v, rfl⟩ := lineB_form hb
  have e2 : (if i = 0 then (if k = 118 ∧ v = [48] then .ok (x, c) else .error 2)
    else if i = 1 then (if k = 111 ∧ valB (bsA v) 200 = true then .ok ({ x with origin := bsA v }, c) else .error 2)
    else if i = 2 then (if k = 115 ∧ valB (bsA v) 200 = true then .ok ({ x with name := bsA v }, c) else .error 2)
    else if i = 3 then (if k = 116 ∧ valB (bsA v) 200 = true then .ok ({ x with time := bsA v }, c) else .error 2)
    else if k = 97 then (if (attrS v).2 = false then .error 2 else if placeLen x = 64 then .error 3 else .ok (addAttr x (attrS v).1, false))
    else if k = 109 ∧ valB (bsA v) 200 = true then (if x.parts.length = 8 then .error 3 else .ok ({ x with parts := x.parts ++ [⟨bsA v, ⟨#[]⟩, []⟩] }, true))
    else if k = 99 ∧ c = true ∧ valB (bsA v) 200 = true then .ok (setConn x (bsA v), false)
    else (.error 2 : Except Int (Ss × Bool))) = .error e := h
  clear h
  repeat' split at e2
  all_goals (cases e2; try omega)
theorem run_codes : ∀ (ls : List (List UInt8)) (n : Nat) (c : Bool) (x : Ss) (a e : Int), runS ls n c x = .error (a, e) → 1 ≤ a ∧ (e = 2 ∨ e = 3)
  | [], _, _, _, _, _, h => by cases h
  | l :: r, n, c, x, a, e, h => by
    unfold runS at h
    cases hs : stepS n c x l with
    | error er =>
      rw [hs] at h
      injection h with h
      injection h with h1 h2
      have := step_codes hs
      omega
    | ok p =>
      obtain ⟨z, d⟩ := p
      rw [hs] at h
      exact run_codes r (n + 1) d z a e h
theorem parse_ways (s : List UInt8) : (∃ y, parseS s = (y, 0, 0)) ∨ ∃ n g, parseS s = (noSs, n, g) ∧ ((g = 2 ∧ 1 ≤ n) ∨ g = 3) := by
  unfold parseS
  split
  · exact .inr ⟨_, _, rfl, .inr rfl⟩
  · split
    · rename_i n e h
      have := run_codes _ _ _ _ _ _ h
      exact .inr ⟨n, e, rfl, by omega⟩
    · split
      · exact .inr ⟨_, _, rfl, .inl ⟨rfl, by omega⟩⟩
      · exact .inl ⟨_, rfl⟩
theorem good_shorts {l : List At} (h : goodAs l = true) : Shorts l := fun a ha => by
  have := good_short (List.all_eq_true.1 h a ha)
  unfold maxLen
  omega
theorem goodS_sized {x : Ss} (h : goodS x = true) : Sized x := by
  obtain ⟨h1, h2, h3, h4, h5, h6, h7⟩ := goodS_parts h
  have v : ∀ {s : ByteArray}, valB s 200 = true → s.size ≤ maxLen := fun h => by have := val_short h; unfold maxLen; omega
  refine ⟨v h1, v h2, v h3, good_shorts h5, by omega, fun p hp => ?_, by omega⟩
  obtain ⟨p1, p2, p3, p4⟩ := goodPa_parts (List.all_eq_true.1 h7 p hp)
  refine ⟨v p1, ?_, good_shorts p4, by omega⟩
  rcases p2 with p2 | p2
  · rw [p2]; exact Nat.zero_le _
  · exact v p2
theorem twoKeep2 {w : World} {b c : Nat} {x y : Ss} {vA vP vB vQ : Value} (h1 : Blk w b 33 (head5 x vA vP)) (h2 : Blk w c 26 (head5 y vB vQ)) :
    (w.cell? ⟨b, 0, none⟩ = some (.string x.origin) ∧ w.cell? ⟨b, 1, none⟩ = some (.string x.name) ∧ w.cell? ⟨b, 2, none⟩ = some (.string x.time) ∧ w.cell? ⟨b, 3, none⟩ = some vA ∧ w.cell? ⟨b, 4, none⟩ = some vP) ∧
    (w.cell? ⟨c, 0, none⟩ = some (.string y.origin) ∧ w.cell? ⟨c, 1, none⟩ = some (.string y.name) ∧ w.cell? ⟨c, 2, none⟩ = some (.string y.time) ∧ w.cell? ⟨c, 3, none⟩ = some vB ∧ w.cell? ⟨c, 4, none⟩ = some vQ) := ⟨headoursKeep h1, headtheirsKeep h2⟩
set_option maxRecDepth 8000 in
set_option maxHeartbeats 8000000 in
theorem law7 (I : Img) (M : List Res) (w : World) (m : Int) (x : Ss) (vA vP : Value) (pv : List (Pa × Value)) (s : ByteArray) (hst : St I M w) (hm : I.cell? ⟨0, 0, none⟩ = some (.int .i64 m)) (ha : Ses I vA vP pv x) (hsz : Sized x)
    (hal : x.attrs.length * 32 ≤ 140737488351232) (hpl : pv.length * 56 ≤ 140737488351232) (hpe : ∀ p ∈ pv, p.1.attrs.length * 32 ≤ 140737488351232) (hz : s.size ≤ maxLen) :
    Calls Try.prog 7 #[.agg (head5 x vA vP), .string s] w (Yes I M) := by
  have HA := Lib.hid ha
  have HZ := Lib.hid hsz
  have HM := Lib.hid hm
  have HPE := Lib.hid hpe
  obtain ⟨aA, cA, rfl, _⟩ := ha.attrs
  obtain ⟨aP, cP, rfl, _⟩ := ha.parts
  obtain ⟨b0, hb0⟩ : ∃ b, b = w.heap.size := ⟨_, rfl⟩
  have hs := hst.alloc 26 (head5 x (.slice aA x.attrs.length cA) (.slice aP pv.length cP))
  rw [← hb0] at hs
  have HS := Lib.hid hs
  clear hst ha hsz hm hs hpe
  go_enter Try.func7, Try.ntmps7
  go_upto_region 1 with fail
  rw [← hb0]
  clear hb0
  generalize World.alloc _ _ = W0 at HS ⊢
  have HW := Lib.hid (awakeP I _ W0 m HS.out HM.out)
  go_wp2_with fail
  go_at_call 8
  refine HW.out.mono ?_
  rintro e w2 ⟨_, _, M2, rfl, hle, hs2, rfl, hM⟩
  rw [hM] at hs2
  clear HS HW
  have HS := Lib.hid (hs2.less hle)
  clear hs2 hle hM M2
  obtain ⟨hc, hf, hl⟩ := Blk.all HS.out.head
  have HT := Lib.hid (theirsR I _ w2 (.slice aA x.attrs.length cA) (.slice aP pv.length cP) x pv HS.out HA.out hal hpl HPE.out)
  go_wp2_with fail
  go_at_call 15
  refine HT.out.mono ?_
  rintro e w3 ⟨_, _, _, rfl, _, hs3, rfl, vC, vR, rv, hrv, rfl, rfl⟩
  obtain ⟨J1, hle1, hs4, hses1⟩ := freezeSes hs3 hrv
  have HP := Lib.hid (printP J1 _ w3 vC vR x rv hs4 hses1 HZ.out)
  have HL1 := Lib.hid hle1
  clear hs3 hs4 hle1 hses1 hrv HT HS hc hf hl
  go_wp2_with fail
  go_at_call 14
  refine HP.out.mono ?_
  rintro e w4 ⟨_, _, _, rfl, _, hs5, rfl, rfl, rfl⟩
  have HS := Lib.hid hs5
  clear hs5 HP
  by_cases hgd : goodS x = true ∧ ¬ 8192 < (printS x).length
  · have hpr : printR x = (bsA (printS x), 0) := by unfold printR; rw [if_pos hgd]
    rw [hpr]
    dsimp only
    have HC0 := Lib.hid (parseP J1 _ w4 (bsA (printS x)) m HS.out (HL1.out.cell HM.out) (by rw [bsA_size]; unfold maxLen; omega))
    rw [bsA_list, print_parse hgd.1 hgd.2] at HC0
    have hrl : x.attrs.length ≤ 64 ∧ x.parts.length ≤ 8 ∧ ∀ p ∈ x.parts, p.attrs.length ≤ 64 := by
      obtain ⟨_, _, _, h4, _, h6, h7⟩ := goodS_parts hgd.1
      exact ⟨h4, h6, fun p hp => (goodPa_parts (List.all_eq_true.1 h7 p hp)).2.2.1⟩
    have HRL := Lib.hid hrl
    clear hgd hpr hrl
    go_upto_region 6 with (go_at_call 10; refine HC0.out.mono ?_; clear HC0; rintro e w5 ⟨_, _, _, rfl, _, hs5, rfl, vB, vQ, qv, hqv, rfl, rfl⟩; obtain ⟨J3, hle2, hs6, hses2⟩ := freezeSes hs5 hqv; obtain ⟨aB, cB, rfl, _⟩ := hses2.attrs; obtain ⟨aQ, cQ, rfl, _⟩ := hses2.parts; have HS6 := Lib.hid (hs6.alloc 33 #[.string x.origin, .string x.name, .string x.time, .slice aB x.attrs.length cB, .slice aQ qv.length cQ]); have HL2 := Lib.hid hle2; have SES2 := Lib.hid hses2; have HQV := Lib.hid hqv; clear hs5 hs6 hle2 hses2 hqv HS; dsimp only [head5])
    obtain ⟨p2, hp2⟩ : ∃ p, p = w5.heap.size := ⟨_, rfl⟩
    rw [← hp2] at HS6 ⊢
    clear hp2
    generalize World.alloc _ _ = W6 at HS6 ⊢
    obtain ⟨hc, hf, hl⟩ := Blk.all HS6.out.head
    clear hf hl
    clear hc
    have hs := HS6.out.drew
    clear HS6
    have hxl := HRL.out.1
    have hpvl : pv.length ≤ 8 := by have h := HA.out.same; have h2 := HRL.out.2.1; have h3 : pv.length = x.parts.length := (by rw [← h]; simp [partsOf])
                                    omega
    have hqvl : qv.length ≤ 8 := by have h := SES2.out.same; have h2 := HRL.out.2.1; have h3 : qv.length = x.parts.length := (by rw [← h]; simp [partsOf])
                                    omega
    refine wp_region_held_drew (S := (fun w' => (w'.cell? ⟨p2, 0, none⟩ = some (.string x.origin) ∧ w'.cell? ⟨p2, 1, none⟩ = some (.string x.name) ∧ w'.cell? ⟨p2, 2, none⟩ = some (.string x.time) ∧ w'.cell? ⟨p2, 3, none⟩ = some (.slice aB x.attrs.length cB) ∧ w'.cell? ⟨p2, 4, none⟩ = some (.slice aQ qv.length cQ)) ∧ (w'.cell? ⟨b0, 0, none⟩ = some (.string x.origin) ∧ w'.cell? ⟨b0, 1, none⟩ = some (.string x.name) ∧ w'.cell? ⟨b0, 2, none⟩ = some (.string x.time) ∧ w'.cell? ⟨b0, 3, none⟩ = some (.slice aA x.attrs.length cA) ∧ w'.cell? ⟨b0, 4, none⟩ = some (.slice aP pv.length cP)))) (by kernel_rfl) (by (try dsimp only); exact twoKeep2 (hs.at 0 rfl) (hs.at 1 rfl)) (fun hHeld => ?_)
    generalize World.drew _ = W at hs hHeld ⊢
    refine wpAnyH_take (i := 0) (oi := _) (v := ?_) rfl (by kernel_rfl) (by kernel_rfl) (by kernel_rfl) (fun _ _ _ h => h) (Or.inl ⟨by rfl, ?_⟩) (by assumption) ?_
    rotate_left
    · (intro w hSw; (try dsimp only at hSw); go_simp; try with_reducible rfl)
    try simp only [Act.put, List.getElem_toArray, List.getElem_cons_zero, List.getElem_cons_succ, List.setIfInBounds_toArray, List.set_cons_zero, List.set_cons_succ]
    refine wpAnyH_take (i := 1) (oi := _) (v := ?_) rfl (by kernel_rfl) (by kernel_rfl) (by kernel_rfl) (fun _ _ _ h => h) (Or.inl ⟨by rfl, ?_⟩) (by assumption) ?_
    rotate_left
    · (intro w hSw; (try dsimp only at hSw); go_simp; try with_reducible rfl)
    try simp only [Act.put, List.getElem_toArray, List.getElem_cons_zero, List.getElem_cons_succ, List.setIfInBounds_toArray, List.set_cons_zero, List.set_cons_succ]
    refine wpAnyH_take (i := 2) (oi := _) (v := ?_) rfl (by kernel_rfl) (by kernel_rfl) (by kernel_rfl) (fun _ _ _ h => h) (Or.inl ⟨by rfl, ?_⟩) (by assumption) ?_
    rotate_left
    · (intro w hSw; (try dsimp only at hSw); go_simp; try with_reducible rfl)
    try simp only [Act.put, List.getElem_toArray, List.getElem_cons_zero, List.getElem_cons_succ, List.setIfInBounds_toArray, List.set_cons_zero, List.set_cons_succ]
    refine wpAnyH_take (i := 3) (oi := _) (v := ?_) rfl (by kernel_rfl) (by kernel_rfl) (by kernel_rfl) (fun _ _ _ h => h) (Or.inl ⟨by rfl, ?_⟩) (by assumption) ?_
    rotate_left
    · (intro w hSw; (try dsimp only at hSw); go_simp; try with_reducible rfl)
    try simp only [Act.put, List.getElem_toArray, List.getElem_cons_zero, List.getElem_cons_succ, List.setIfInBounds_toArray, List.set_cons_zero, List.set_cons_succ]
    refine wpAnyH_take (i := 4) (oi := _) (v := ?_) rfl (by kernel_rfl) (by kernel_rfl) (by kernel_rfl) (fun _ _ _ h => h) (Or.inl ⟨by rfl, ?_⟩) (by assumption) ?_
    rotate_left
    · (intro w hSw; (try dsimp only at hSw); go_simp; try with_reducible rfl)
    try simp only [Act.put, List.getElem_toArray, List.getElem_cons_zero, List.getElem_cons_succ, List.setIfInBounds_toArray, List.set_cons_zero, List.set_cons_succ]
    refine wpAnyH_take (i := 5) (oi := _) (v := ?_) rfl (by kernel_rfl) (by kernel_rfl) (by kernel_rfl) (fun _ _ _ h => h) (Or.inl ⟨by rfl, ?_⟩) (by assumption) ?_
    rotate_left
    · (intro w hSw; (try dsimp only at hSw); go_simp; try with_reducible rfl)
    try simp only [Act.put, List.getElem_toArray, List.getElem_cons_zero, List.getElem_cons_succ, List.setIfInBounds_toArray, List.set_cons_zero, List.set_cons_succ]
    refine wpAnyH_take (i := 6) (oi := _) (v := ?_) rfl (by kernel_rfl) (by kernel_rfl) (by kernel_rfl) (fun _ _ _ h => h) (Or.inl ⟨by rfl, ?_⟩) (by assumption) ?_
    rotate_left
    · (intro w hSw; (try dsimp only at hSw); go_simp; try with_reducible rfl)
    try simp only [Act.put, List.getElem_toArray, List.getElem_cons_zero, List.getElem_cons_succ, List.setIfInBounds_toArray, List.set_cons_zero, List.set_cons_succ]
    refine wpAnyH_take (i := 7) (oi := _) (v := ?_) rfl (by kernel_rfl) (by kernel_rfl) (by kernel_rfl) (fun _ _ _ h => h) (Or.inl ⟨by rfl, ?_⟩) (by assumption) ?_
    rotate_left
    · (intro w hSw; (try dsimp only at hSw); go_simp; try with_reducible rfl)
    try simp only [Act.put, List.getElem_toArray, List.getElem_cons_zero, List.getElem_cons_succ, List.setIfInBounds_toArray, List.set_cons_zero, List.set_cons_succ]
    refine wpAnyH_take (i := 9) (oi := _) (v := ?_) rfl (by kernel_rfl) (by kernel_rfl) (by kernel_rfl) (fun _ _ _ h => h) (Or.inl ⟨by rfl, ?_⟩) (by assumption) ?_
    rotate_left
    · (intro w hSw; (try dsimp only at hSw); go_simp; try with_reducible rfl)
    try simp only [Act.put, List.getElem_toArray, List.getElem_cons_zero, List.getElem_cons_succ, List.setIfInBounds_toArray, List.set_cons_zero, List.set_cons_succ]
    refine wpAnyH_ready (rs := [8]) (by kernel_rfl) (by simp) ?_
    refine (AllReadyH.cons (o := _) rfl (fun K hK => ?_) AllReadyH.nil)
    go_simp
    refine (oursR J3 _ W (.slice aB x.attrs.length cB) (.slice aQ qv.length cQ) x qv hs SES2.out (by omega) (by omega) (fun p hp => by have := HRL.out.2.2 p.1 (by rw [← SES2.out.same]; exact List.mem_map_of_mem hp); omega)).mono ?_
    clear hs
    rintro e W ⟨_, _, _, rfl, _, hs0, rfl, vD, vS, sv, hsv, rfl, rfl⟩
    obtain ⟨J4, hle4, hs, hses4⟩ := freezeSes hs0 hsv
    have HL4 := Lib.hid hle4
    have SES4 := Lib.hid hses4
    clear hs0 hle4 hses4 hsv
    try clear hHeld
    refine hK.out _ _ (by (try dsimp only); exact twoKeep2 (hs.at 0 rfl) (hs.at 1 rfl)) (fun hHeld => ?_)
    clear hK K
    try simp only [Act.put, List.getElem_toArray, List.getElem_cons_zero, List.getElem_cons_succ, List.setIfInBounds_toArray, List.set_cons_zero, List.set_cons_succ]
    refine wpAnyH_ready (rs := [10]) (by kernel_rfl) (by simp) ?_
    refine (AllReadyH.cons (o := _) rfl (fun K hK => ?_) AllReadyH.nil)
    go_simp
    refine (sameR J4 _ W vD vS (.slice aA x.attrs.length cA) (.slice aP pv.length cP) x x sv pv hs SES4.out (((HA.out.mono HL1.out).mono HL2.out).mono HL4.out) (by omega) (by omega) (by have h := SES4.out.same; have h2 := HRL.out.2.1; have h3 : sv.length = x.parts.length := (by rw [← h]; simp [partsOf]); omega) (by omega) (fun p hp => by have := HRL.out.2.2 p.1 (by rw [← SES4.out.same]; exact List.mem_map_of_mem hp); omega) (fun p hp => by have := HRL.out.2.2 p.1 (by rw [← HA.out.same]; exact List.mem_map_of_mem hp); omega)).mono ?_
    clear hs
    rintro e W ⟨_, _, _, rfl, _, hs, rfl, ⟨b, rfl, hb⟩, rfl⟩
    obtain rfl : b = true := hb.2 rfl
    clear hb
    try clear hHeld
    refine hK.out _ _ (by (try dsimp only); exact twoKeep2 (hs.at 0 rfl) (hs.at 1 rfl)) (fun hHeld => ?_)
    clear hK K
    try simp only [Act.put, List.getElem_toArray, List.getElem_cons_zero, List.getElem_cons_succ, List.setIfInBounds_toArray, List.set_cons_zero, List.set_cons_succ]
    refine wpAnyH_take (i := 11) (oi := _) (v := ?_) rfl (by kernel_rfl) (by kernel_rfl) (by kernel_rfl) (fun _ _ _ h => h) (Or.inl ⟨by rfl, ?_⟩) (by assumption) ?_
    rotate_left
    · (intro w hSw; (try dsimp only at hSw); go_simp; try with_reducible rfl)
    try simp only [Act.put, List.getElem_toArray, List.getElem_cons_zero, List.getElem_cons_succ, List.setIfInBounds_toArray, List.set_cons_zero, List.set_cons_succ]
    refine wpAnyH_take (i := 12) (oi := _) (v := ?_) rfl (by kernel_rfl) (by kernel_rfl) (by kernel_rfl) (fun _ _ _ h => h) (Or.inl ⟨by rfl, ?_⟩) (by assumption) ?_
    rotate_left
    · (intro w hSw; (try dsimp only at hSw); go_simp; try with_reducible rfl)
    try simp only [Act.put, List.getElem_toArray, List.getElem_cons_zero, List.getElem_cons_succ, List.setIfInBounds_toArray, List.set_cons_zero, List.set_cons_succ]
    refine wpAnyH_done (by kernel_rfl) ?_ _
    have HS9 := Lib.hid hs.drop
    have HLL := Lib.hid ((HL1.out.trans HL2.out).trans HL4.out)
    clear hs SES4 SES2 HQV HL4 HL2 HRL HA
    have HC := Lib.hid (parseP J4 _ _ s m HS9.out (HLL.out.cell HM.out) hz)
    rcases parse_ways s.data.toList with ⟨y, hy⟩ | ⟨n, g, hy, hng⟩
    · rw [hy] at HC
      obtain ⟨hgy, hpy, hl8⟩ := parse_print hy
      have HPR := Lib.hid (show printR y = (s, 0) by unfold printR; rw [hpy, if_pos ⟨hgy, hl8⟩, show bsA s.data.toList = s from Lib.mk_data s])
      have HGY := Lib.hid hgy
      clear hy hpy hl8 hgy
      go_upto_region 9 with (go_at_call 10; refine HC.out.mono ?_; clear HC; rintro e w5 ⟨_, _, _, rfl, _, hs5, rfl, vB, vQ, qv, hqv, rfl, rfl⟩; obtain ⟨J9, hle2, hs6, hses2⟩ := freezeSes hs5 hqv; obtain ⟨aB, cB, rfl, _⟩ := hses2.attrs; obtain ⟨aQ, cQ, rfl, _⟩ := hses2.parts; have HS8 := Lib.hid (hs6.alloc 33 #[.string y.origin, .string y.name, .string y.time, .slice aB y.attrs.length cB, .slice aQ qv.length cQ]); have HL2 := Lib.hid hle2; have SES2 := Lib.hid hses2; have HQV := Lib.hid hqv; clear hs5 hs6 hle2 hses2 hqv HS9; dsimp only [head5])
      obtain ⟨p2, hp2⟩ : ∃ p, p = w5.heap.size := ⟨_, rfl⟩
      rw [← hp2] at HS8 ⊢
      clear hp2
      generalize World.alloc _ _ = W6 at HS8 ⊢
      obtain ⟨hc, hf, hl⟩ := Blk.all HS8.out.head
      clear hf hl
      have HP := Lib.hid (printP J9 _ W6 _ _ y qv HS8.out SES2.out (goodS_sized HGY.out))
      rw [HPR.out] at HP
      go_wp2_with fail
      go_at_call 14
      refine HP.out.mono ?_
      rintro e w7 ⟨_, _, _, rfl, _, hs7, rfl, rfl, rfl⟩
      have HS7 := Lib.hid hs7
      clear hs7 hc HP
      dsimp only
      go_wp2
      go_returns
      exact Ret.mk (HLL.out.trans HL2.out) HS7.out.drop.drop ⟨rfl, rfl⟩
    · rw [hy] at HC
      clear hy
      go_upto_region 9 with (go_at_call 10; refine HC.out.mono ?_; clear HC; rintro e w5 ⟨_, _, _, rfl, _, hs5, rfl, vB, vQ, qv, hqv, rfl, rfl⟩; obtain ⟨J9, hle2, hs6, hses2⟩ := freezeSes hs5 hqv; obtain ⟨aB, cB, rfl, _⟩ := hses2.attrs; obtain ⟨aQ, cQ, rfl, _⟩ := hses2.parts; have HS8 := Lib.hid (hs6.alloc 33 #[.string noSs.origin, .string noSs.name, .string noSs.time, .slice aB noSs.attrs.length cB, .slice aQ qv.length cQ]); have HL2 := Lib.hid hle2; have SES2 := Lib.hid hses2; have HQV := Lib.hid hqv; clear hs5 hs6 hle2 hses2 hqv HS9; dsimp only [head5])
      obtain ⟨p2, hp2⟩ : ∃ p, p = w5.heap.size := ⟨_, rfl⟩
      rw [← hp2] at HS8 ⊢
      clear hp2
      generalize World.alloc _ _ = W6 at HS8 ⊢
      obtain ⟨hc, hf, hl⟩ := Blk.all HS8.out.head
      clear hf hl
      have hql : qv.length = 0 := by have := congrArg List.length HQV.out; simpa [partsOf, noSs] using this
      rw [hql] at hc
      rcases hng with ⟨rfl, hn⟩ | rfl
      · go_wp2
        go_returns
        exact Ret.mk (HLL.out.trans HL2.out) HS8.out.drop.drop ⟨rfl, rfl⟩
      · go_wp2
        go_returns
        exact Ret.mk (HLL.out.trans HL2.out) HS8.out.drop.drop ⟨rfl, rfl⟩
  · have hpr : printR x = (⟨#[]⟩, 1) := by unfold printR; rw [if_neg hgd]
    rw [hpr]
    dsimp only
    clear hgd hpr
    have HC := Lib.hid (parseP J1 _ _ s m HS.out (HL1.out.cell HM.out) hz)
    rcases parse_ways s.data.toList with ⟨y, hy⟩ | ⟨n, g, hy, hng⟩
    · rw [hy] at HC
      obtain ⟨hgy, hpy, hl8⟩ := parse_print hy
      have HPR := Lib.hid (show printR y = (s, 0) by unfold printR; rw [hpy, if_pos ⟨hgy, hl8⟩, show bsA s.data.toList = s from Lib.mk_data s])
      have HGY := Lib.hid hgy
      clear hy hpy hl8 hgy
      go_upto_region 9 with (go_at_call 10; refine HC.out.mono ?_; clear HC; rintro e w5 ⟨_, _, _, rfl, _, hs5, rfl, vB, vQ, qv, hqv, rfl, rfl⟩; obtain ⟨J9, hle2, hs6, hses2⟩ := freezeSes hs5 hqv; obtain ⟨aB, cB, rfl, _⟩ := hses2.attrs; obtain ⟨aQ, cQ, rfl, _⟩ := hses2.parts; have HS6 := Lib.hid (hs6.alloc 33 #[.string y.origin, .string y.name, .string y.time, .slice aB y.attrs.length cB, .slice aQ qv.length cQ]); have HL2 := Lib.hid hle2; have SES2 := Lib.hid hses2; have HQV := Lib.hid hqv; clear hs5 hs6 hle2 hses2 hqv HS; dsimp only [head5])
      obtain ⟨p2, hp2⟩ : ∃ p, p = w5.heap.size := ⟨_, rfl⟩
      rw [← hp2] at HS6 ⊢
      clear hp2
      generalize World.alloc _ _ = W6 at HS6 ⊢
      obtain ⟨hc, hf, hl⟩ := Blk.all HS6.out.head
      clear hf hl
      have HP := Lib.hid (printP J9 _ W6 _ _ y qv HS6.out SES2.out (goodS_sized HGY.out))
      rw [HPR.out] at HP
      go_wp2_with fail
      go_at_call 14
      refine HP.out.mono ?_
      rintro e w7 ⟨_, _, _, rfl, _, hs7, rfl, rfl, rfl⟩
      have HS7 := Lib.hid hs7
      clear hs7 hc HP
      dsimp only
      go_wp2
      go_returns
      exact Ret.mk (HL1.out.trans HL2.out) HS7.out.drop.drop ⟨rfl, rfl⟩
    · rw [hy] at HC
      clear hy
      go_upto_region 9 with (go_at_call 10; refine HC.out.mono ?_; clear HC; rintro e w5 ⟨_, _, _, rfl, _, hs5, rfl, vB, vQ, qv, hqv, rfl, rfl⟩; obtain ⟨J9, hle2, hs6, hses2⟩ := freezeSes hs5 hqv; obtain ⟨aB, cB, rfl, _⟩ := hses2.attrs; obtain ⟨aQ, cQ, rfl, _⟩ := hses2.parts; have HS6 := Lib.hid (hs6.alloc 33 #[.string noSs.origin, .string noSs.name, .string noSs.time, .slice aB noSs.attrs.length cB, .slice aQ qv.length cQ]); have HL2 := Lib.hid hle2; have SES2 := Lib.hid hses2; have HQV := Lib.hid hqv; clear hs5 hs6 hle2 hses2 hqv HS; dsimp only [head5])
      obtain ⟨p2, hp2⟩ : ∃ p, p = w5.heap.size := ⟨_, rfl⟩
      rw [← hp2] at HS6 ⊢
      clear hp2
      generalize World.alloc _ _ = W6 at HS6 ⊢
      obtain ⟨hc, hf, hl⟩ := Blk.all HS6.out.head
      clear hf hl
      have hql : qv.length = 0 := by have := congrArg List.length HQV.out; simpa [partsOf, noSs] using this
      rw [hql] at hc
      rcases hng with ⟨rfl, hn⟩ | rfl
      · go_wp2
        go_returns
        exact Ret.mk (HL1.out.trans HL2.out) HS6.out.drop.drop ⟨rfl, rfl⟩
      · go_wp2
        go_returns
        exact Ret.mk (HL1.out.trans HL2.out) HS6.out.drop.drop ⟨rfl, rfl⟩
end Go.Proofs.Ytpbbincgddmbiaa
