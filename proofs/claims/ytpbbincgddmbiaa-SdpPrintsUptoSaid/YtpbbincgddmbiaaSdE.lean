/- rostrumref06.Parse. -/
import Derived.Test.YtpbbincgddmbiaaSdP
namespace Go.Proofs.Ytpbbincgddmbiaa
open Go.RowKit
set_option linter.unusedSimpArgs false

theorem info54 : (Try.prog.info? 54).map (fun i => (i.zero, i.size, i.bytes)) = some (some (.agg #[.string ⟨#[]⟩, .string ⟨#[]⟩]), 2, 32) := by kernel_rfl
theorem info58 : (Try.prog.info? 58).map (fun i => (i.zero, i.size, i.bytes)) = some (some (.agg #[.string ⟨#[]⟩, .string ⟨#[]⟩, .slice none 0 0]), 3, 56) := by kernel_rfl
set_option maxRecDepth 8000 in
set_option maxHeartbeats 16000000 in
theorem parseR (I : Img) (M : List Res) (w : World) (s : ByteArray) (hst : St I M w) (_ : s.size ≤ maxLen) :
    Calls Try.prog 9 #[.string s] w (Ret I (fun v J M' => I = J ∧ parQ 54 58 M (parseS s.data.toList) v M')) := by
  have hs1 := hst.alloc 26 zero5
  have HS := Lib.hid hs1
  obtain ⟨hcR, hfR, hlR⟩ := Blk.all (hs1.at 0 rfl)
  clear hst hs1
  go_enter Try.func9, Try.ntmps9
  by_cases h8 : 8192 < s.size
  · have h8' : (8192 : Int) < s.size := by omega
    have HE := Lib.hid (show parseS s.data.toList = (noSs, 0, 3) by unfold parseS; rw [if_pos (by rw [Array.length_toList]; exact h8)])
    go_wp2
    refine bodyPost_ret (res9 _ _ ⟨#[]⟩ ⟨#[]⟩ ⟨#[]⟩ (.slice none 0 0) (.slice none 0 0) 0 3 _ rfl rfl rfl (HS.out.at 0 rfl)) rfl ?_
    refine Ret.mk (.refl I) ((HS.out.drop).nil (e := 54) (size := 2) |>.nil (e := 58) (size := 3)) ⟨rfl, ?_⟩
    rw [HE.out]
    exact parErr 54 58 M 0 3
  have h8' : (s.size : Int) ≤ 8192 := by omega
  have HE := Lib.hid (show parseS s.data.toList = match runS (linesS s.data.toList).1 0 false noSs with
    | .error (n, e) => (noSs, n, e)
    | .ok x => if (linesS s.data.toList).2 = true ∨ (linesS s.data.toList).1.length < 4 then (noSs, ((linesS s.data.toList).1.length : Int) + 1, 2) else (x, 0, 0) by unfold parseS; rw [if_neg (by rw [Array.length_toList]; exact h8)]; rfl)
  have hsz : s.data.toList.length = s.size := by rw [Array.length_toList]; rfl
  have hlc := linesC I _ _ s HS.out (by omega)
  have hll := linesS_len s.data.toList
  have hlz := linesS_size s.data.toList
  obtain ⟨ls, hls⟩ : ∃ ls, ls = (linesS s.data.toList).1 := ⟨_, rfl⟩
  obtain ⟨rb, hrb⟩ : ∃ rb, rb = (linesS s.data.toList).2 := ⟨_, rfl⟩
  rw [← hls, ← hrb] at HE hlc
  rw [← hls] at hll hlz
  have hlsn : ls.length ≤ 8192 := by omega
  have HLZ := Lib.hid (show ∀ x ∈ ls, x.length ≤ 8192 from fun x hx => by have := hlz x hx; omega)
  clear hls hrb h8 hll hlz hcR hfR hlR hsz
  go_wp2_with fail
  refine hlc.mono ?_
  clear hlc HS
  rintro e w1 ⟨_, _, _, rfl, _, hs1, rfl, A, c, rfl, rfl⟩
  have HS := Lib.hid (hs1.alloc 26 zero5)
  obtain ⟨q, hq⟩ : ∃ q, q = w1.heap.size := ⟨_, rfl⟩
  rw [← hq] at HS
  clear hs1
  go_upto_region 8 with fail
  rw [← hq]
  clear hq
  go_loopw [8, 9, 28] (fun pl cv iv wr => ∃ (i : Nat) (x : Ss) (cn : Bool) (vA vP : Value) (pv : List (Pa × Value)), i ≤ ls.length ∧ iv = .int .i64 i ∧ cv = .bool cn ∧ Hid (Half q 26 54 58 w.heap.size ls A c M I i x cn vA vP pv pl wr)) (fun _ _ iv _ => ls.length - (intOf iv).toNat)
  case atStart =>
    refine ⟨0, noSs, false, .slice none 0 0, .slice none 0 0, [], by omega, rfl, rfl, Lib.hid ⟨rfl, ⟨rfl, by simp, by simp [noSs], fun p hp => by cases hp⟩, fun _ => ⟨rfl, rfl⟩, fun h => by omega, fun h => (by cases h), ?_⟩⟩
    exact ((HS.out.dn1).nil (e := 54) (size := 2) |>.nil (e := 58) (size := 3))
  case round =>
    obtain ⟨i, x, cn, vA, vP, pv, hi, rfl, rfl, hh⟩ := hrel
    clear HS
    by_cases hlt : i < ls.length
    · have hs := hh.out.st
      obtain ⟨g, rfl, hg, hc⟩ := own_form2 (hs.at 4 rfl) (by rw [show (strs ls).length = ls.length from List.length_map ..]; omega)
      have y0 := own_at1 (hs.at 4 rfl) i (by rw [show (strs ls).length = ls.length from List.length_map ..]; exact hlt)
      simp only [strs, List.getElem_map] at y0
      have hsz := HLZ.out ls[i] (List.getElem_mem hlt)
      have hnx := runS_next hlt cn x
      rw [← hh.out.run] at hnx
      obtain ⟨l, hl⟩ : ∃ l, l = ls[i] := ⟨_, rfl⟩
      rw [← hl] at y0 hsz hnx
      have HNX := Lib.hid hnx
      clear hl hnx hs
      have hbz : (bsA l).size = l.length := by simp [bsA, ByteArray.size]
      have hs := hh.out.st
      go_upto_region 13 with fail
      clear y0 hg
      go_cut [42] (fun v wx => v = .bool (lineB l) ∧ wx = wr)
      case first =>
        clear hs hh HNX
        rcases l with _ | ⟨a, _ | ⟨b, v⟩⟩
        · go_wp2
          go_meet
          exact ⟨rfl, rfl⟩
        · go_wp2
          go_meet
          exact ⟨rfl, rfl⟩
        · have hb1 : (2 : Int) ≤ (a :: b :: v).length := by simp; omega
          go_wp2
          go_meet
          exact ⟨congrArg Value.bool (byte_lit b 61 (by decide)), rfl⟩
      case rest =>
      obtain ⟨rfl, hwc⟩ := hcut
      subst hwc
      go_upto_if 42 with fail
      go_cut [8, 9, 12, 13] (fun pl cv fv ov wx => Hid (match stepS i cn x l with | .error e => fv = .int .i64 e ∧ ov = .bool false ∧ St I (bk w.heap.size 26 zero5 :: M) wx | .ok (y, d) => ov = .bool true ∧ cv = .bool d ∧ ∃ vA' vP' pv', Half q 26 54 58 w.heap.size ls (some ⟨g, 0, none⟩) c M I (i + 1) y d vA' vP' pv' pl wx))
      case first =>
        have HS := Lib.hid hs
        clear hs
        cases hlb : lineB l
        · have HE9 := Lib.hid (show stepS i cn x l = .error 2 from step_bad hlb)
          clear hlb
          go_wp2
          go_meet
          refine Lib.hid ?_
          rw [HE9.out]
          exact ⟨rfl, rfl, half_err HS.out⟩
        · obtain ⟨a, v, rfl⟩ := lineB_form hlb
          clear hlb
          have hv : (bsA (a :: 61 :: v)).extract 2 (v.length + 1 + 1) = bsA v := by rw [Lib.extract_eq]; simp [bsA]
          have hx0 : ∀ h0, (bsA (a :: 61 :: v))[0]'h0 = a := fun _ => rfl
          have hvz : (bsA v).size ≤ maxLen := by
            have h1 : (bsA v).size = v.length := by simp [bsA, ByteArray.size]
            rw [h1]
            simp at hsz
            unfold maxLen
            omega
          obtain ⟨vb, hvb⟩ : ∃ vb, vb = valB (bsA v) 200 := ⟨_, rfl⟩
          have HVB := Lib.hid hvb
          have HV8 := Lib.hid (show (bsA v).size ≤ 1000000 by
            have h1 : (bsA v).size = v.length := by simp [bsA, ByteArray.size]
            rw [h1]
            simp at hsz
            omega)
          obtain ⟨hcQ, hfQ, hlQ⟩ := Blk.all (HS.out.at 2 rfl)
          clear hvb hsz
          by_cases hi0 : i = 0
          · as_aux_lemma =>
            subst hi0
            cases hb : (a == 118 && v == [48])
            · have HE9 := Lib.hid (show stepS 0 cn x (a :: 61 :: v) = .error 2 by
                show (if a = 118 ∧ v = [48] then _ else _) = _
                rw [if_neg]
                rintro ⟨rfl, rfl⟩
                cases hb)
              go_wp2
              go_meet
              refine Lib.hid ?_
              rw [HE9.out]
              exact ⟨rfl, by first | rfl | exact congrArg Value.bool hb, half_err HS.out⟩
            · have HE9 := Lib.hid (show stepS 0 cn x (a :: 61 :: v) = .ok (x, cn) by
                show (if a = 118 ∧ v = [48] then _ else _) = _
                rw [if_pos]
                simpa using hb)
              go_wp2
              go_meet
              refine Lib.hid ?_
              rw [HE9.out]
              have hf := hh.out
              exact ⟨by first | rfl | exact congrArg Value.bool hb, rfl, vA, vP, pv, HNX.out.trans (by rw [HE9.out]), hf.small, fun _ => hf.early (by omega), fun h => by omega, hf.some, HS.out⟩
          by_cases hi1 : i = 1
          · as_aux_lemma =>
            subst hi1
            cases hb : (a == 111)
            · have hbi : ((a.toNat : Int) == 111) = false := (byte_lit a 111 (by decide)).trans hb
              have hbp : ¬ (a.toNat : Int) = 111 := by simpa using hbi
              have HE9 := Lib.hid (show stepS 1 cn x (a :: 61 :: v) = .error 2 by
                show (if a = 111 ∧ valB (bsA v) 200 = true then _ else _) = _
                rw [if_neg]
                rintro ⟨h, _⟩
                rw [h] at hb
                cases hb)
              go_wp2
              go_meet
              refine Lib.hid ?_
              rw [HE9.out]
              exact ⟨rfl, rfl, half_err (x := { x with origin := bsA v }) (HS.out.set2 0 (.string (bsA v)))⟩
            · have hbi : ((a.toNat : Int) == 111) = true := (byte_lit a 111 (by decide)).trans hb
              have hbp : (a.toNat : Int) = 111 := by simpa using hbi
              cases vb
              · have HE9 := Lib.hid (show stepS 1 cn x (a :: 61 :: v) = .error 2 by
                  show (if a = 111 ∧ valB (bsA v) 200 = true then _ else _) = _
                  rw [if_neg]
                  rintro ⟨_, h⟩
                  rw [← HVB.out] at h
                  cases h)
                go_wp2_with (go_at_call 17; refine (valueR (bsA v) 200 _ hvz).mono ?_; rw [← HVB.out]; rintro e w2 ⟨rfl, hw2⟩; subst w2)
                go_meet
                refine Lib.hid ?_
                rw [HE9.out]
                exact ⟨rfl, rfl, half_err (x := { x with origin := bsA v }) (HS.out.set2 0 (.string (bsA v)))⟩
              · have HE9 := Lib.hid (show stepS 1 cn x (a :: 61 :: v) = .ok ({ x with origin := bsA v }, cn) by
                  show (if a = 111 ∧ valB (bsA v) 200 = true then _ else _) = _
                  rw [if_pos ⟨by simpa using hb, HVB.out.symm⟩])
                go_wp2_with (go_at_call 17; refine (valueR (bsA v) 200 _ hvz).mono ?_; rw [← HVB.out]; rintro e w2 ⟨rfl, hw2⟩; subst w2)
                go_meet
                refine Lib.hid ?_
                rw [HE9.out]
                have hf := hh.out
                exact ⟨rfl, rfl, vA, vP, pv, HNX.out.trans (by rw [HE9.out]), ⟨hf.small.parts, hf.small.few, hf.small.own, hf.small.each⟩, fun _ => hf.early (by omega), fun h => by omega, hf.some, HS.out.set2 0 (.string (bsA v))⟩
          by_cases hi2 : i = 2
          · as_aux_lemma =>
            subst hi2
            cases hb : (a == 115)
            · have hbi : ((a.toNat : Int) == 115) = false := (byte_lit a 115 (by decide)).trans hb
              have hbp : ¬ (a.toNat : Int) = 115 := by simpa using hbi
              have HE9 := Lib.hid (show stepS 2 cn x (a :: 61 :: v) = .error 2 by
                show (if a = 115 ∧ valB (bsA v) 200 = true then _ else _) = _
                rw [if_neg]
                rintro ⟨h, _⟩
                rw [h] at hb
                cases hb)
              go_wp2
              go_meet
              refine Lib.hid ?_
              rw [HE9.out]
              exact ⟨rfl, rfl, half_err (x := { x with name := bsA v }) (HS.out.set2 1 (.string (bsA v)))⟩
            · have hbi : ((a.toNat : Int) == 115) = true := (byte_lit a 115 (by decide)).trans hb
              have hbp : (a.toNat : Int) = 115 := by simpa using hbi
              cases vb
              · have HE9 := Lib.hid (show stepS 2 cn x (a :: 61 :: v) = .error 2 by
                  show (if a = 115 ∧ valB (bsA v) 200 = true then _ else _) = _
                  rw [if_neg]
                  rintro ⟨_, h⟩
                  rw [← HVB.out] at h
                  cases h)
                go_wp2_with (go_at_call 17; refine (valueR (bsA v) 200 _ hvz).mono ?_; rw [← HVB.out]; rintro e w2 ⟨rfl, hw2⟩; subst w2)
                go_meet
                refine Lib.hid ?_
                rw [HE9.out]
                exact ⟨rfl, rfl, half_err (x := { x with name := bsA v }) (HS.out.set2 1 (.string (bsA v)))⟩
              · have HE9 := Lib.hid (show stepS 2 cn x (a :: 61 :: v) = .ok ({ x with name := bsA v }, cn) by
                  show (if a = 115 ∧ valB (bsA v) 200 = true then _ else _) = _
                  rw [if_pos ⟨by simpa using hb, HVB.out.symm⟩])
                go_wp2_with (go_at_call 17; refine (valueR (bsA v) 200 _ hvz).mono ?_; rw [← HVB.out]; rintro e w2 ⟨rfl, hw2⟩; subst w2)
                go_meet
                refine Lib.hid ?_
                rw [HE9.out]
                have hf := hh.out
                exact ⟨rfl, rfl, vA, vP, pv, HNX.out.trans (by rw [HE9.out]), ⟨hf.small.parts, hf.small.few, hf.small.own, hf.small.each⟩, fun _ => hf.early (by omega), fun h => by omega, hf.some, HS.out.set2 1 (.string (bsA v))⟩
          by_cases hi3 : i = 3
          · as_aux_lemma =>
            subst hi3
            cases hb : (a == 116)
            · have hbi : ((a.toNat : Int) == 116) = false := (byte_lit a 116 (by decide)).trans hb
              have hbp : ¬ (a.toNat : Int) = 116 := by simpa using hbi
              have HE9 := Lib.hid (show stepS 3 cn x (a :: 61 :: v) = .error 2 by
                show (if a = 116 ∧ valB (bsA v) 200 = true then _ else _) = _
                rw [if_neg]
                rintro ⟨h, _⟩
                rw [h] at hb
                cases hb)
              go_wp2
              go_meet
              refine Lib.hid ?_
              rw [HE9.out]
              exact ⟨rfl, rfl, half_err (x := { x with time := bsA v }) (HS.out.set2 2 (.string (bsA v)))⟩
            · have hbi : ((a.toNat : Int) == 116) = true := (byte_lit a 116 (by decide)).trans hb
              have hbp : (a.toNat : Int) = 116 := by simpa using hbi
              cases vb
              · have HE9 := Lib.hid (show stepS 3 cn x (a :: 61 :: v) = .error 2 by
                  show (if a = 116 ∧ valB (bsA v) 200 = true then _ else _) = _
                  rw [if_neg]
                  rintro ⟨_, h⟩
                  rw [← HVB.out] at h
                  cases h)
                go_wp2_with (go_at_call 17; refine (valueR (bsA v) 200 _ hvz).mono ?_; rw [← HVB.out]; rintro e w2 ⟨rfl, hw2⟩; subst w2)
                go_meet
                refine Lib.hid ?_
                rw [HE9.out]
                exact ⟨rfl, rfl, half_err (x := { x with time := bsA v }) (HS.out.set2 2 (.string (bsA v)))⟩
              · have HE9 := Lib.hid (show stepS 3 cn x (a :: 61 :: v) = .ok ({ x with time := bsA v }, cn) by
                  show (if a = 116 ∧ valB (bsA v) 200 = true then _ else _) = _
                  rw [if_pos ⟨by simpa using hb, HVB.out.symm⟩])
                go_wp2_with (go_at_call 17; refine (valueR (bsA v) 200 _ hvz).mono ?_; rw [← HVB.out]; rintro e w2 ⟨rfl, hw2⟩; subst w2)
                go_meet
                refine Lib.hid ?_
                rw [HE9.out]
                have hf := hh.out
                exact ⟨rfl, rfl, vA, vP, pv, HNX.out.trans (by rw [HE9.out]), ⟨hf.small.parts, hf.small.few, hf.small.own, hf.small.each⟩, fun h => by omega, fun _ => .inl ⟨(hf.early (by omega)).2, rfl⟩, hf.some, HS.out.set2 2 (.string (bsA v))⟩
          have hi4 : 4 ≤ i := by omega
          have hb0 : ((i : Int) == 0) = false := by simp; omega
          have hb1 : ((i : Int) == 1) = false := by simp; omega
          have hb2 : ((i : Int) == 2) = false := by simp; omega
          have hb3 : ((i : Int) == 3) = false := by simp; omega
          have hE4 : stepS i cn x (a :: 61 :: v) = if a = 97 then (if (attrS v).2 = false then .error 2 else if placeLen x = 64 then .error 3 else .ok (addAttr x (attrS v).1, false))
              else if a = 109 ∧ valB (bsA v) 200 = true then (if x.parts.length = 8 then .error 3 else .ok ({ x with parts := x.parts ++ [⟨bsA v, ⟨#[]⟩, []⟩] }, true))
              else if a = 99 ∧ cn = true ∧ valB (bsA v) 200 = true then .ok (setConn x (bsA v), false)
              else .error 2 := by
            show (if i = 0 then _ else if i = 1 then _ else if i = 2 then _ else if i = 3 then _ else _) = _
            rw [if_neg hi0, if_neg hi1, if_neg hi2, if_neg hi3]
          have HE4 := Lib.hid hE4
          clear hE4
          cases ha : (a == 97)
          rotate_left
          · as_aux_lemma =>
            have hna : ((a.toNat : Int) == 97) = true := (byte_lit a 97 (by decide)).trans ha
            have hpa : (a.toNat : Int) = 97 := by simpa using hna
            have HE5 := Lib.hid (show stepS i cn x (a :: 61 :: v) = if (attrS v).2 = false then .error 2 else if placeLen x = 64 then .error 3 else .ok (addAttr x (attrS v).1, false) by
              rw [HE4.out, if_pos (by simpa using ha)])
            obtain ⟨P, va, la, N, gp, op, rfl, hpn, hl64, hperm, hcel, hset, hnew⟩ := place_ways (TS := 26) (TA := 54) (TP := 58) (q := q) (r := w.heap.size) (vA := vA) (vP := vP) (L := [row 9 1 (.slice (some ⟨g, 0, none⟩) ls.length c) ls.length (strs ls)]) (M := M) hh.out.small (hh.out.place hi4)
            have hcall := attrR I _ _ (bsA v) HS.out HV8.out
            rw [show (bsA v).data.toList = v from rfl] at hcall
            obtain ⟨at_, hat⟩ : ∃ t, t = attrS v := ⟨_, rfl⟩
            rw [← hat] at HE5 hcall
            clear hat ha HE4 HVB vb hcQ hfQ hlQ
            have HPM := Lib.hid hperm
            have HCE := Lib.hid hcel
            have HST := Lib.hid hset
            have HNW := Lib.hid hnew
            rw [hpn] at HE5
            obtain ⟨⟨nm, vl⟩, ok⟩ := at_
            dsimp only at hcall
            have HCL := Lib.hid hcall
            clear hperm hcel hset hnew hcall hpn HS
            cases ok
            · go_wp2_with (go_at_call 18; refine HCL.out.mono ?_; clear HCL; rintro e w2 ⟨_, _, _, rfl, _, hs2, rfl, rfl, rfl⟩; have HS2 := Lib.hid hs2; clear hs2)
              go_meet
              refine Lib.hid ?_
              rw [HE5.out]
              exact ⟨rfl, rfl, half_err (HS2.out.alloc 54 #[.string nm, .string vl]).drop⟩
            · by_cases h64 : la.length = 64
              · have HE6 := Lib.hid (show stepS i cn x (a :: 61 :: v) = .error 3 from HE5.out.trans (if_pos h64))
                have hln : (64 : Int) ≤ la.length := by omega
                have hdb : decide ((la.length : Int) < 64) = false := decide_eq_false (by omega)
                clear HE5 h64
                go_wp2_with (go_at_call 18; refine HCL.out.mono ?_; clear HCL; rintro e w2 ⟨_, _, _, rfl, _, hs2, rfl, rfl, rfl⟩; have hp2 := hs2.perm HPM.out; obtain ⟨hc2, hf2, hg2⟩ := HCE.out _ _ (hp2.at 0 rfl); obtain ⟨aV, cV, rfl⟩ := own_form (show World.ownsRow _ 0 54 2 va _ _ from hp2.at 1 rfl); have HS2 := Lib.hid hs2; clear hs2 hp2)
                go_meet
                refine Lib.hid ?_
                rw [HE6.out]
                exact ⟨rfl, by first | rfl | exact congrArg Value.bool (decide_eq_false (by omega)), half_err (HS2.out.alloc 54 #[.string nm, .string vl]).drop⟩
              · have HE6 := Lib.hid (show stepS i cn x (a :: 61 :: v) = .ok (addAttr x ⟨nm, vl⟩, false) from HE5.out.trans (if_neg h64))
                have hln : (la.length : Int) < 64 := by omega
                clear HE5 h64
                go_upto_region 30 with (go_at_call 18; refine HCL.out.mono ?_; clear HCL; rintro e w2 ⟨_, _, _, rfl, _, hs2, rfl, rfl, rfl⟩; have hp2 := hs2.perm HPM.out; obtain ⟨hc2, hf2, hg2⟩ := HCE.out _ _ (hp2.at 0 rfl); obtain ⟨aV, cV, rfl⟩ := own_form (show World.ownsRow _ 0 54 2 va _ _ from hp2.at 1 rfl); have HS2 := Lib.hid hp2; clear hs2 hp2)
                obtain ⟨e, he⟩ : ∃ e, e = w2.heap.size := ⟨_, rfl⟩
                have hs0 := HS2.out.alloc 54 #[.string nm, .string vl]
                rw [← he] at hs0 ⊢
                clear he hc2 hf2 hg2 HS2 HPM
                generalize World.alloc _ _ = W at hs0 ⊢
                have hs : St I (bk e 54 #[.string nm, .string vl] :: P (.slice aV la.length cV) :: row 54 2 (.slice aV la.length cV) la.length (flat atC la) :: N) (World.drew W) := hs0.drew
                clear hs0
                obtain ⟨i5, hi5, hz0, hz1, hz2⟩ := info_parts info54
                refine wp_region_held_drew (S := (fun w' => w'.cell? ⟨e, 0, none⟩ = some (.string nm) ∧ w'.cell? ⟨e, 1, none⟩ = some (.string vl))) (by kernel_rfl) (by (try dsimp only); first | exact k18 (hs.at 0 rfl) | exact k18 ((hs.grow _).at 0 rfl)) (fun hHeld => ?_)
                generalize World.drew W = W at hs hHeld ⊢
                refine wpAnyH_take (i := 0) (oi := _) (v := ?_) rfl (by kernel_rfl) (by kernel_rfl) (by kernel_rfl) (fun _ _ _ h => h) (Or.inl ⟨by rfl, ?_⟩) (by assumption) ?_
                rotate_left
                · (intro w hSw; (try dsimp only at hSw); go_simp; try with_reducible rfl)
                try simp only [Act.put, List.getElem_toArray, List.getElem_cons_zero, List.getElem_cons_succ, List.setIfInBounds_toArray, List.set_cons_zero, List.set_cons_succ]
                refine wpAnyH_take (i := 1) (oi := _) (v := ?_) rfl (by kernel_rfl) (by kernel_rfl) (by kernel_rfl) (fun _ _ _ h => h) (Or.inl ⟨by rfl, ?_⟩) (by assumption) ?_
                rotate_left
                · (intro w hSw; (try dsimp only at hSw); go_simp; try with_reducible rfl)
                try simp only [Act.put, List.getElem_toArray, List.getElem_cons_zero, List.getElem_cons_succ, List.setIfInBounds_toArray, List.set_cons_zero, List.set_cons_succ]
                refine wpAnyH_take (i := 2) (oi := _) (v := ?_) rfl (by kernel_rfl) (by kernel_rfl) (by kernel_rfl) (fun _ _ _ h => h) (Or.inl ⟨by rfl, ?_⟩) (by assumption) ?_
                rotate_left
                · (intro w hSw; (try dsimp only at hSw); go_simp; try with_reducible rfl)
                try simp only [Act.put, List.getElem_toArray, List.getElem_cons_zero, List.getElem_cons_succ, List.setIfInBounds_toArray, List.set_cons_zero, List.set_cons_succ]
                refine wpAnyH_take (i := 4) (oi := _) (v := ?_) rfl (by kernel_rfl) (by kernel_rfl) (by kernel_rfl) (fun _ _ _ h => h) (Or.inl ⟨by rfl, ?_⟩) (by assumption) ?_
                rotate_left
                · (intro w hSw; (try dsimp only at hSw); go_simp; try with_reducible rfl)
                try simp only [Act.put, List.getElem_toArray, List.getElem_cons_zero, List.getElem_cons_succ, List.setIfInBounds_toArray, List.set_cons_zero, List.set_cons_succ]
                refine wpAnyH_ready (rs := [3, 5]) (by kernel_rfl) (by simp) ?_
                refine (AllReadyH.cons (o := _) rfl (fun K hK => ?_) (AllReadyH.cons (o := _) rfl (fun K hK => ?_) AllReadyH.nil))
                · skip
                  have hcQ : W.cell? ⟨gp, op, none⟩ = some (.slice aV la.length cV) := (HCE.out _ _ (hs.at 1 rfl)).1
                  go_simp
                  try clear hHeld
                  refine hK.out _ _ (by (try dsimp only); first | exact k18 (hs.at 0 rfl) | exact k18 ((hs.grow _).at 0 rfl)) (fun hHeld => ?_)
                  clear hK K
                  try simp only [Act.put, List.getElem_toArray, List.getElem_cons_zero, List.getElem_cons_succ, List.setIfInBounds_toArray, List.set_cons_zero, List.set_cons_succ]
                  clear hcQ
                  refine wpAnyH_ready (rs := [5]) (by kernel_rfl) (by simp) ?_
                  refine (AllReadyH.cons (o := _) rfl (fun K hK => ?_) AllReadyH.nil)
                  have hsr := hs.litSrcV (P := Try.prog) (t := 23) (e := 54) (cs := #[.string nm, .string vl]) (n := 1) (size := 2) rfl (by decide) Try.underlying23 (by simp [Value.oneCell'])
                  go_simp
                  try clear hHeld
                  refine hK.out _ _ (by (try dsimp only); first | exact k18 (hs.at 0 rfl) | exact k18 ((hs.grow _).at 0 rfl)) (fun hHeld => ?_)
                  clear hK K
                  try simp only [Act.put, List.getElem_toArray, List.getElem_cons_zero, List.getElem_cons_succ, List.setIfInBounds_toArray, List.set_cons_zero, List.set_cons_succ]
                  generalize hw : World.alloc W _ = W at hHeld hsr ⊢
                  replace hs := hs.growTo hw
                  clear hw
                  refine wpAnyH_ready (rs := [6]) (by kernel_rfl) (by simp) ?_
                  refine (AllReadyH.cons (o := _) rfl (fun K hK => ?_) AllReadyH.nil)
                  replace hs := hs.swap2
                  refine step_append_src _ (by rfl) _ _ 23 23 (by rfl) 0 54 i5 (.agg #[.string ⟨#[]⟩, .string ⟨#[]⟩]) 2 32 Try.underlying23 hi5 hz0 hz1 hz2 rfl _ la.length (flat atC la) (by rfl) hs.head _ 1 _ (by rfl) hsr (by unfold maxLen; omega) (by omega) (Nat.zero_le _) ?_
                  intro v' W hown' hgrow hat
                  have hown2 : W.ownsRow 0 54 2 v' (la.length + 1) (flat atC (la ++ [At.mk nm vl])) := by simpa [flat_append, flat] using hown'
                  obtain ⟨A10, c10, rfl⟩ := own_form hown2
                  replace hs := (hs.grown hgrow hown2 hat).swap2
                  clear hown' hown2 hgrow hat hsr
                  try clear hHeld
                  refine hK.out _ _ (by (try dsimp only); first | exact k18 (hs.at 0 rfl) | exact k18 ((hs.grow _).at 0 rfl)) (fun hHeld => ?_)
                  clear hK K
                  try simp only [Act.put, List.getElem_toArray, List.getElem_cons_zero, List.getElem_cons_succ, List.setIfInBounds_toArray, List.set_cons_zero, List.set_cons_succ]
                  refine wpAnyH_take (i := 7) (oi := _) (v := ?_) rfl (by kernel_rfl) (by kernel_rfl) (by kernel_rfl) (fun _ _ _ h => h) (Or.inl ⟨by rfl, ?_⟩) (by assumption) ?_
                  rotate_left
                  · (intro w hSw; (try dsimp only at hSw); go_simp; try with_reducible rfl)
                  try simp only [Act.put, List.getElem_toArray, List.getElem_cons_zero, List.getElem_cons_succ, List.setIfInBounds_toArray, List.set_cons_zero, List.set_cons_succ]
                  refine wpAnyH_ready (rs := [8]) (by kernel_rfl) (by simp) ?_
                  refine (AllReadyH.cons (o := _) rfl (fun K hK => ?_) AllReadyH.nil)
                  obtain ⟨hcQ, hfQ, hlQ⟩ := HCE.out _ _ (hs.at 1 rfl)
                  go_simp
                  replace hs := (HST.out _ _ _ _ (.slice A10 (la.length + 1) c10) hs.swap1).swap1
                  try clear hHeld
                  refine hK.out _ _ (by (try dsimp only); first | exact k18 (hs.at 0 rfl) | exact k18 ((hs.grow _).at 0 rfl)) (fun hHeld => ?_)
                  clear hK K
                  try simp only [Act.put, List.getElem_toArray, List.getElem_cons_zero, List.getElem_cons_succ, List.setIfInBounds_toArray, List.set_cons_zero, List.set_cons_succ]
                  clear hcQ hfQ hlQ
                  refine wpAnyH_done (by kernel_rfl) ?_ _
                  generalize World.setCell _ _ _ = W at hs ⊢
                  obtain ⟨vA', pv', hsm', hpl', _, hperm'⟩ := HNW.out ⟨nm, vl⟩ (.slice A10 (la.length + 1) c10) (by omega)
                  have HS9 := Lib.hid (hs.drop.perm hperm')
                  have HR9 := Lib.hid hsm'
                  have HP9 := Lib.hid hpl'
                  clear hs hperm' hsm' hpl'
                  go_wp2
                  go_meet
                  refine Lib.hid ?_
                  rw [HE6.out]
                  exact ⟨by first | rfl | exact congrArg Value.bool (decide_eq_true hln), rfl, vA', vP, pv', HNX.out.trans (by rw [HE6.out]), HR9.out, fun h => by omega, fun _ => HP9.out, fun h => (by cases h), HS9.out⟩
                · skip
                  have hsr := hs.litSrcV (P := Try.prog) (t := 23) (e := 54) (cs := #[.string nm, .string vl]) (n := 1) (size := 2) rfl (by decide) Try.underlying23 (by simp [Value.oneCell'])
                  go_simp
                  try clear hHeld
                  refine hK.out _ _ (by (try dsimp only); first | exact k18 (hs.at 0 rfl) | exact k18 ((hs.grow _).at 0 rfl)) (fun hHeld => ?_)
                  clear hK K
                  try simp only [Act.put, List.getElem_toArray, List.getElem_cons_zero, List.getElem_cons_succ, List.setIfInBounds_toArray, List.set_cons_zero, List.set_cons_succ]
                  generalize hw : World.alloc W _ = W at hHeld hsr ⊢
                  replace hs := hs.growTo hw
                  clear hw
                  refine wpAnyH_ready (rs := [3]) (by kernel_rfl) (by simp) ?_
                  refine (AllReadyH.cons (o := _) rfl (fun K hK => ?_) AllReadyH.nil)
                  have hcQ : W.cell? ⟨gp, op, none⟩ = some (.slice aV la.length cV) := (HCE.out _ _ (hs.at 1 rfl)).1
                  go_simp
                  try clear hHeld
                  refine hK.out _ _ (by (try dsimp only); first | exact k18 (hs.at 0 rfl) | exact k18 ((hs.grow _).at 0 rfl)) (fun hHeld => ?_)
                  clear hK K
                  try simp only [Act.put, List.getElem_toArray, List.getElem_cons_zero, List.getElem_cons_succ, List.setIfInBounds_toArray, List.set_cons_zero, List.set_cons_succ]
                  clear hcQ
                  refine wpAnyH_ready (rs := [6]) (by kernel_rfl) (by simp) ?_
                  refine (AllReadyH.cons (o := _) rfl (fun K hK => ?_) AllReadyH.nil)
                  replace hs := hs.swap2
                  refine step_append_src _ (by rfl) _ _ 23 23 (by rfl) 0 54 i5 (.agg #[.string ⟨#[]⟩, .string ⟨#[]⟩]) 2 32 Try.underlying23 hi5 hz0 hz1 hz2 rfl _ la.length (flat atC la) (by rfl) hs.head _ 1 _ (by rfl) hsr (by unfold maxLen; omega) (by omega) (Nat.zero_le _) ?_
                  intro v' W hown' hgrow hat
                  have hown2 : W.ownsRow 0 54 2 v' (la.length + 1) (flat atC (la ++ [At.mk nm vl])) := by simpa [flat_append, flat] using hown'
                  obtain ⟨A10, c10, rfl⟩ := own_form hown2
                  replace hs := (hs.grown hgrow hown2 hat).swap2
                  clear hown' hown2 hgrow hat hsr
                  try clear hHeld
                  refine hK.out _ _ (by (try dsimp only); first | exact k18 (hs.at 0 rfl) | exact k18 ((hs.grow _).at 0 rfl)) (fun hHeld => ?_)
                  clear hK K
                  try simp only [Act.put, List.getElem_toArray, List.getElem_cons_zero, List.getElem_cons_succ, List.setIfInBounds_toArray, List.set_cons_zero, List.set_cons_succ]
                  refine wpAnyH_take (i := 7) (oi := _) (v := ?_) rfl (by kernel_rfl) (by kernel_rfl) (by kernel_rfl) (fun _ _ _ h => h) (Or.inl ⟨by rfl, ?_⟩) (by assumption) ?_
                  rotate_left
                  · (intro w hSw; (try dsimp only at hSw); go_simp; try with_reducible rfl)
                  try simp only [Act.put, List.getElem_toArray, List.getElem_cons_zero, List.getElem_cons_succ, List.setIfInBounds_toArray, List.set_cons_zero, List.set_cons_succ]
                  refine wpAnyH_ready (rs := [8]) (by kernel_rfl) (by simp) ?_
                  refine (AllReadyH.cons (o := _) rfl (fun K hK => ?_) AllReadyH.nil)
                  obtain ⟨hcQ, hfQ, hlQ⟩ := HCE.out _ _ (hs.at 1 rfl)
                  go_simp
                  replace hs := (HST.out _ _ _ _ (.slice A10 (la.length + 1) c10) hs.swap1).swap1
                  try clear hHeld
                  refine hK.out _ _ (by (try dsimp only); first | exact k18 (hs.at 0 rfl) | exact k18 ((hs.grow _).at 0 rfl)) (fun hHeld => ?_)
                  clear hK K
                  try simp only [Act.put, List.getElem_toArray, List.getElem_cons_zero, List.getElem_cons_succ, List.setIfInBounds_toArray, List.set_cons_zero, List.set_cons_succ]
                  clear hcQ hfQ hlQ
                  refine wpAnyH_done (by kernel_rfl) ?_ _
                  generalize World.setCell _ _ _ = W at hs ⊢
                  obtain ⟨vA', pv', hsm', hpl', _, hperm'⟩ := HNW.out ⟨nm, vl⟩ (.slice A10 (la.length + 1) c10) (by omega)
                  have HS9 := Lib.hid (hs.drop.perm hperm')
                  have HR9 := Lib.hid hsm'
                  have HP9 := Lib.hid hpl'
                  clear hs hperm' hsm' hpl'
                  go_wp2
                  go_meet
                  refine Lib.hid ?_
                  rw [HE6.out]
                  exact ⟨by first | rfl | exact congrArg Value.bool (decide_eq_true hln), rfl, vA', vP, pv', HNX.out.trans (by rw [HE6.out]), HR9.out, fun h => by omega, fun _ => HP9.out, fun h => (by cases h), HS9.out⟩
          cases hm : (a == 109)
          rotate_left
          · as_aux_lemma =>
            have hna : ((a.toNat : Int) == 97) = false := (byte_lit a 97 (by decide)).trans ha
            have hnm : ((a.toNat : Int) == 109) = true := (byte_lit a 109 (by decide)).trans hm
            have hpa : ¬ (a.toNat : Int) = 97 := by simpa using hna
            have hpm : (a.toNat : Int) = 109 := by simpa using hnm
            have HE5 := Lib.hid (show stepS i cn x (a :: 61 :: v) = if vb = true then (if x.parts.length = 8 then .error 3 else .ok ({ x with parts := x.parts ++ [⟨bsA v, ⟨#[]⟩, []⟩] }, true)) else .error 2 by
              have e9 : a = 109 := by simpa using hm
              rw [HE4.out, if_neg (by simpa using ha), HVB.out]
              simp [e9])
            have hpl : pv.length = x.parts.length := by rw [← hh.out.small.parts]; unfold partsOf; simp
            have hp8 := hh.out.small.few
            rw [← hpl] at HE5
            clear ha hm HE4 hpl
            obtain ⟨aP, cP, rfl⟩ := own_form (show World.ownsRow _ 0 58 3 vP _ _ from HS.out.at 0 rfl)
            cases vb
            · go_wp2_with (go_at_call 17; refine (valueR (bsA v) 200 _ hvz).mono ?_; rw [← HVB.out]; rintro e w2 ⟨rfl, hw2⟩; subst w2)
              go_meet
              refine Lib.hid ?_
              rw [HE5.out]
              exact ⟨rfl, rfl, half_err HS.out⟩
            · by_cases h8p : pv.length = 8
              · have HE6 := Lib.hid (show stepS i cn x (a :: 61 :: v) = .error 3 from HE5.out.trans (if_pos h8p))
                have hln : (8 : Int) ≤ pv.length := by omega
                have hdb : decide ((pv.length : Int) < 8) = false := decide_eq_false (by omega)
                clear HE5 h8p hp8
                go_wp2_with (go_at_call 17; refine (valueR (bsA v) 200 _ hvz).mono ?_; rw [← HVB.out]; rintro e w2 ⟨rfl, hw2⟩; subst w2)
                go_meet
                refine Lib.hid ?_
                rw [HE6.out]
                exact ⟨rfl, by first | rfl | exact congrArg Value.bool (decide_eq_false (by omega)), half_err HS.out⟩
              · have HE6 := Lib.hid (show stepS i cn x (a :: 61 :: v) = .ok ({ x with parts := x.parts ++ [⟨bsA v, ⟨#[]⟩, []⟩] }, true) from HE5.out.trans (if_neg h8p))
                have hln : (pv.length : Int) < 8 := by omega
                clear HE5 h8p
                obtain ⟨i3, hi5, hz0, hz1, hz2⟩ := info_parts info58
                have hs0 := HS.out.litSrcV (P := Try.prog) (t := 24) (e := 58) (cs := #[.string (bsA v), .string ⟨#[]⟩, .slice none 0 0]) (n := 1) (size := 3) rfl (by decide) Try.underlying24 (by simp [Value.oneCell'])
                have Hs := Lib.hid hs0
                have HG := Lib.hid (HS.out.grow (.cells #[.string (bsA v), .string ⟨#[]⟩, .slice none 0 0] 58))
                clear hs0
                go_wp2_with (first | (go_at_call 17; refine (valueR (bsA v) 200 _ hvz).mono ?_; rw [← HVB.out]; rintro e w2 ⟨rfl, hw2⟩; subst w2) | (at_builtin; refine wpList_append_src _ rfl _ _ 24 24 rfl 0 58 i3 (.agg #[.string ⟨#[]⟩, .string ⟨#[]⟩, .slice none 0 0]) 3 56 Try.underlying24 hi5 hz0 hz1 hz2 rfl _ pv.length (flat paC pv) rfl HG.out.head _ 1 _ rfl Hs.out (by unfold maxLen; omega) (by omega) (Nat.zero_le _) ?_))
                intro v' w' hown hgrow hat
                have hown2 : w'.ownsRow 0 58 3 v' (pv.length + 1) (flat paC (pv ++ [((⟨bsA v, ⟨#[]⟩, []⟩ : Pa), .slice none 0 0)])) := by simpa [flat_append, flat] using hown
                have hs3 := HG.out.grown hgrow hown2 (by simpa using hat)
                obtain ⟨B', c', rfl⟩ := own_form hown2
                obtain ⟨gB, rfl, hgB, hcB⟩ := own_form2 hown2 (by rw [flat_len (f := paC) (s := 3) (fun _ => rfl)]; simp)
                clear hown hown2 hgrow hat HG Hs hcQ hfQ hlQ
                obtain ⟨hcQ, hfQ, hlQ⟩ := Blk.all (hs3.at 2 rfl)
                have HS3 := Lib.hid hs3
                clear hs3
                go_wp2
                go_meet
                refine Lib.hid ?_
                rw [HE6.out]
                have hf := hh.out
                have hs4 := HS3.out.set2 4 (.slice (some ⟨gB, 0, none⟩) (pv.length + 1) c')
                refine ⟨by first | rfl | exact congrArg Value.bool (decide_eq_true hln), rfl, vA, .slice (some ⟨gB, 0, none⟩) (pv.length + 1) c', pv ++ [((⟨bsA v, ⟨#[]⟩, []⟩ : Pa), .slice none 0 0)], HNX.out.trans (by rw [HE6.out]), ⟨?_, by simp; omega, hf.small.own, fun y hy => ?_⟩, fun h => by omega, fun _ => .inr ⟨gB, _, c', by simp, rfl, by simp⟩, fun _ => by simp, ?_⟩
                · show partsOf _ = x.parts ++ _
                  rw [← hf.small.parts]
                  unfold partsOf
                  simp
                · rcases List.mem_append.1 hy with h | h
                  · exact hf.small.each y h
                  · obtain rfl := List.mem_singleton.1 h
                    exact Nat.zero_le _
                · have e1 : (pv ++ [((⟨bsA v, ⟨#[]⟩, []⟩ : Pa), (.slice none 0 0 : Value))]).length = pv.length + 1 := by simp
                  have h5 := (arow_last (TA := 54) (N := [row 58 3 (.slice (some ⟨gB, 0, none⟩) (pv.length + 1) c') (pv.length + 1) (flat paC (pv ++ [((⟨bsA v, ⟨#[]⟩, []⟩ : Pa), .slice none 0 0)])), row 54 2 vA x.attrs.length (flat atC x.attrs), bk q 26 (head5 x vA (.slice (some ⟨gB, 0, none⟩) (pv.length + 1) c')), bk w.heap.size 26 zero5, row 9 1 (.slice (some ⟨g, 0, none⟩) ls.length c) ls.length (strs ls)]) pv ((⟨bsA v, ⟨#[]⟩, []⟩ : Pa), .slice none 0 0)).2 (St.nil (e := 54) (size := 2) hs4)
                  unfold half
                  rw [e1]
                  exact h5
          cases hc9 : (a == 99)
          rotate_left
          · as_aux_lemma =>
            have hna : ((a.toNat : Int) == 97) = false := (byte_lit a 97 (by decide)).trans ha
            have hnm : ((a.toNat : Int) == 109) = false := (byte_lit a 109 (by decide)).trans hm
            have hnc : ((a.toNat : Int) == 99) = true := (byte_lit a 99 (by decide)).trans hc9
            have hpa : ¬ (a.toNat : Int) = 97 := by simpa using hna
            have hpm : ¬ (a.toNat : Int) = 109 := by simpa using hnm
            have hpc : (a.toNat : Int) = 99 := by simpa using hnc
            have HE5 := Lib.hid (show stepS i cn x (a :: 61 :: v) = if cn = true ∧ vb = true then .ok (setConn x (bsA v), false) else .error 2 by
              rw [HE4.out, if_neg (by simpa using ha), if_neg (by rintro ⟨h, _⟩; rw [h] at hm; cases hm), HVB.out]
              have e9 : a = 99 := by simpa using hc9
              simp [e9])
            clear ha hm hc9 HE4
            cases cn
            · go_wp2
              go_meet
              refine Lib.hid ?_
              rw [HE5.out]
              exact ⟨rfl, rfl, half_err HS.out⟩
            · cases vb
              · go_wp2_with (go_at_call 17; refine (valueR (bsA v) 200 _ hvz).mono ?_; rw [← HVB.out]; rintro e w2 ⟨rfl, hw2⟩; subst w2)
                go_meet
                refine Lib.hid ?_
                rw [HE5.out]
                exact ⟨rfl, rfl, half_err HS.out⟩
              · have hpv := hh.out.some rfl
                obtain ⟨ini, z, hpe⟩ : ∃ ini z, pv = ini ++ [z] := ⟨pv.dropLast, pv.getLast hpv, (List.dropLast_concat_getLast hpv).symm⟩
                subst hpe
                have hfl : 0 < (flat paC (ini ++ [z])).length := by rw [flat_len (f := paC) (s := 3) (fun _ => rfl)]; simp
                obtain ⟨aP, cP, rfl⟩ := own_form (show World.ownsRow _ 0 58 3 vP _ _ from HS.out.at 0 rfl)
                obtain ⟨gP, rfl, hgP, hcP⟩ := own_form2 (HS.out.at 0 rfl) hfl
                have hcel := own_at (f := paC) (fun _ => rfl) (HS.out.at 0 rfl) ini.length (by simp) 1 (by decide)
                have hfro := own_frozen (HS.out.at 0 rfl) hfl (ini.length * 3 + 1)
                simp only [List.getElem_append_right (Nat.le_refl _), Nat.sub_self, List.getElem_cons_zero, paC, List.getElem?_cons_succ, List.getElem?_cons_zero] at hcel
                have hlen : (ini ++ [z]).length = ini.length + 1 := by simp
                have hset := St.rowCellSet HS.out (ini.length * 3 + 1) (.string (bsA v)) hfl
                rw [flat_last (f := paC) (s := 3) (fun _ => rfl) ini z ({ z.1 with conn := bsA v }, z.2) 1 (.string (bsA v)) (by decide) rfl] at hset
                have HSET := Lib.hid hset
                have hin7 : ini.length ≤ 7 := by have := hh.out.small.few; rw [hlen] at this; omega
                clear hset hpv hfl
                go_wp2_with (go_at_call 17; refine (valueR (bsA v) 200 _ hvz).mono ?_; rw [← HVB.out]; rintro e w2 ⟨rfl, hw2⟩; subst w2)
                go_meet
                refine Lib.hid ?_
                have hf := hh.out
                have hsc := setConn_of hf.small.parts (bsA v)
                have HE6 := HE5.out.trans (if_pos (by simp))
                rw [hsc] at HE6
                rw [HE6]
                refine ⟨rfl, rfl, vA, .slice (some ⟨gP, 0, none⟩) (ini ++ [z]).length cP, ini ++ [({ z.1 with conn := bsA v }, z.2)], HNX.out.trans (by rw [HE6]), ⟨rfl, by simpa using hf.small.few, hf.small.own, fun y hy => ?_⟩, fun h => by omega, fun _ => ?_, fun h => (by cases h), ?_⟩
                · rcases List.mem_append.1 hy with h | h
                  · exact hf.small.each y (List.mem_append.2 (.inl h))
                  · obtain rfl := List.mem_singleton.1 h
                    exact hf.small.each z (by simp)
                · rcases hf.place hi4 with ⟨h, _⟩ | ⟨g', n, c', _, h1, h2⟩
                  · simp at h
                  · exact .inr ⟨g', n, c', by simp, h1, by rw [h2]; simp⟩
                · have e1 : (ini ++ [({ z.1 with conn := bsA v }, z.2)] : List (Pa × Value)).length = (ini ++ [z]).length := by simp
                  have e2 : (ini ++ [({ z.1 with conn := bsA v }, z.2)] : List (Pa × Value)).map (arow 54) = (ini ++ [z]).map (arow 54) := by rw [List.map_append, List.map_append]; rfl
                  unfold half
                  rw [e1, e2]
                  exact HSET.out
          as_aux_lemma =>
          have hna : ((a.toNat : Int) == 97) = false := (byte_lit a 97 (by decide)).trans ha
          have hnm : ((a.toNat : Int) == 109) = false := (byte_lit a 109 (by decide)).trans hm
          have hnc : ((a.toNat : Int) == 99) = false := (byte_lit a 99 (by decide)).trans hc9
          have hpa : ¬ (a.toNat : Int) = 97 := by simpa using hna
          have hpm : ¬ (a.toNat : Int) = 109 := by simpa using hnm
          have hpc : ¬ (a.toNat : Int) = 99 := by simpa using hnc
          have HE9 := Lib.hid (show stepS i cn x (a :: 61 :: v) = .error 2 by
            rw [HE4.out, if_neg (by simpa using ha), if_neg (by rintro ⟨h, _⟩; rw [h] at hm; cases hm), if_neg (by rintro ⟨h, _⟩; rw [h] at hc9; cases hc9)])
          go_wp2
          go_meet
          refine Lib.hid ?_
          rw [HE9.out]
          exact ⟨rfl, rfl, half_err HS.out⟩
      case rest =>
      as_aux_lemma =>
      have hcu := hcut.out
      have hnx := HNX.out
      clear hcut HNX hs hh
      cases e : stepS i cn x l with
      | error er =>
        rw [e] at hcu hnx
        obtain ⟨rfl, rfl, hs⟩ := hcu
        have HE2 := Lib.hid (show parseS s.data.toList = (noSs, (i : Int) + 1, er) by rw [HE.out, hnx])
        have HX := Lib.hid hs
        obtain ⟨hcR, hfR, hlR⟩ := Blk.all (hs.at 0 rfl)
        clear e hnx hs
        go_wp2
        have hs5 := ((((HX.out.set 0 (.string ⟨#[]⟩)).set 1 (.string ⟨#[]⟩)).set 2 (.string ⟨#[]⟩)).set 3 (.slice none 0 0)).set 4 (.slice none 0 0)
        refine bodyPost_ret (res9 _ _ ⟨#[]⟩ ⟨#[]⟩ ⟨#[]⟩ (.slice none 0 0) (.slice none 0 0) ((i : Int) + 1) er _ rfl rfl rfl (hs5.at 0 rfl)) rfl ?_
        refine Ret.mk (.refl I) ((hs5.drop).nil (e := 54) (size := 2) |>.nil (e := 58) (size := 3)) ⟨rfl, ?_⟩
        rw [HE2.out]
        exact parErr 54 58 M _ _
      | ok r =>
        obtain ⟨y, d⟩ := r
        rw [e] at hcu hnx
        obtain ⟨rfl, rfl, vA', vP', pv', hf⟩ := hcu
        have HF := Lib.hid hf
        clear e hnx hf
        go_wp2
        go_roundw
        case rel => exact ⟨i + 1, y, d, vA', vP', pv', by omega, by go_num, rfl, HF⟩
        case measure => simp [intOf]; omega
    · as_aux_lemma =>
      have hin : i = ls.length := by omega
      have hi2 : (ls.length : Int) ≤ i := by omega
      have hrun := hh.out.run
      rw [hin, List.drop_length] at hrun
      have hE := HE.out
      rw [hrun] at hE
      have hs := hh.out.st
      have hpt := hh.out.small.parts
      have HE2 := Lib.hid (show parseS s.data.toList = if rb = true ∨ ls.length < 4 then (noSs, (ls.length : Int) + 1, 2) else (x, 0, 0) from hE)
      obtain ⟨aA, cA, rfl⟩ := own_form (show World.ownsRow _ 0 54 2 vA _ _ from hs.at 1 rfl)
      obtain ⟨aP, cP, rfl⟩ := own_form (show World.ownsRow _ 0 58 3 vP _ _ from hs.at 0 rfl)
      obtain ⟨hcR, hfR, hlR⟩ := Blk.all (hs.at 3 rfl)
      obtain ⟨hcQ, hfQ, hlQ⟩ := Blk.all (hs.at 2 rfl)
      have HS := Lib.hid hs
      have HP := Lib.hid hpt
      clear hin hrun hE hh hs hpt HE hlt
      by_cases hbad : rb = true ∨ ls.length < 4
      · have HE3 := Lib.hid (HE2.out.trans (if_pos hbad))
        clear HE2
        have hs5 := ((((HS.out.set3 0 (.string ⟨#[]⟩)).set3 1 (.string ⟨#[]⟩)).set3 2 (.string ⟨#[]⟩)).set3 3 (.slice none 0 0)).set3 4 (.slice none 0 0)
        have H5 := Lib.hid hs5
        clear hs5
        cases rb
        · have hl4 : (ls.length : Int) < 4 := by
            rcases hbad with h | h
            · cases h
            · omega
          clear hbad
          go_wp2
          refine bodyPost_ret (res9 _ _ ⟨#[]⟩ ⟨#[]⟩ ⟨#[]⟩ (.slice none 0 0) (.slice none 0 0) ((ls.length : Int) + 1) 2 _ rfl rfl rfl (H5.out.at 3 rfl)) rfl ?_
          refine Ret.mk (.refl I) ((St.dropAll (pv.map (arow 54)) H5.out.drop.drop.drop.drop.drop).nil (e := 54) (size := 2) |>.nil (e := 58) (size := 3)) ⟨rfl, ?_⟩
          rw [HE3.out]
          exact parErr 54 58 M _ _
        · clear hbad
          go_wp2
          refine bodyPost_ret (res9 _ _ ⟨#[]⟩ ⟨#[]⟩ ⟨#[]⟩ (.slice none 0 0) (.slice none 0 0) ((ls.length : Int) + 1) 2 _ rfl rfl rfl (H5.out.at 3 rfl)) rfl ?_
          refine Ret.mk (.refl I) ((St.dropAll (pv.map (arow 54)) H5.out.drop.drop.drop.drop.drop).nil (e := 54) (size := 2) |>.nil (e := 58) (size := 3)) ⟨rfl, ?_⟩
          rw [HE3.out]
          exact parErr 54 58 M _ _
      · have HE3 := Lib.hid (HE2.out.trans (if_neg hbad))
        have hrb : rb = false := by cases rb; rfl; exact absurd (.inl rfl) hbad
        subst hrb
        have hl4 : (4 : Int) ≤ ls.length := by
          apply Classical.byContradiction; intro hx; exact hbad (.inr (by omega))
        clear hbad HE2
        have hs5 := ((((HS.out.set3 0 (.string x.origin)).set3 1 (.string x.name)).set3 2 (.string x.time)).set3 3 (.slice aA x.attrs.length cA)).set3 4 (.slice aP pv.length cP)
        have H5 := Lib.hid hs5
        clear hs5
        go_wp2
        refine bodyPost_ret (res9 _ _ x.origin x.name x.time (.slice aA x.attrs.length cA) (.slice aP pv.length cP) 0 0 _ rfl rfl rfl (H5.out.at 3 rfl)) rfl ?_
        refine Ret.mk (.refl I) H5.out.swap2.drop.swap2.drop.swap2.drop.swap1 ⟨rfl, ?_⟩
        rw [HE3.out]
        exact ⟨_, _, pv, HP.out, rfl, rfl⟩
end Go.Proofs.Ytpbbincgddmbiaa
