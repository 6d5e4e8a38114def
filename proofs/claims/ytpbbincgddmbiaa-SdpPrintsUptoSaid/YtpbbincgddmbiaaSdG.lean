/- sdp.Parse. -/
import Derived.Test.YtpbbincgddmbiaaSdF
import Derived.WalkMore
import Derived.ScopeJumps
namespace Go.Proofs.Ytpbbincgddmbiaa
open Go.RowKit
set_option linter.unusedSimpArgs false

structure HalfM (S : List UInt8) (q r h : Nat) (M : List Res) (I : Img) (s : ByteArray) (i : Nat) (x : Ss) (cn : Bool) (b : Nat) (vA vP : Value) (pv : List (Pa × Value)) (pl : Value) (w : World) : Prop where
  run : parseS S = goS s.data.toList i cn x
  small : Small x pv
  place : placeAt q vP pv pl
  conn : cn = (decide (0 < b) && decide (b = i))
  begun : cn = true → pv ≠ []
  low : b = 0 ∨ 5 ≤ b
  st : St I (half 33 49 66 q r x vA vP pv [bk h 60 #[.pointer (some ⟨q, 0, none⟩), .pointer (some ⟨q, 1, none⟩), .pointer (some ⟨q, 2, none⟩)]] M) w
theorem emp_yes {l : List UInt8} (h : l.length = 0) : l.isEmpty = true := by cases l with | nil => rfl | cons => simp at h
theorem emp_no {l : List UInt8} (h : ¬ l.length = 0) : l.isEmpty = false := by cases l with | nil => exact absurd rfl h | cons => rfl
theorem app61 (l : List UInt8) : (bsA l ++ (⟨#[61]⟩ : ByteArray)).data.toList = l ++ [61] := by simp [bsA, ByteArray.data_append]
theorem prefixP (w : World) (l p : List UInt8) (b : Bool) (h : Lib.hasPrefix l (p ++ [61]) = b) : Calls Try.prog 20 #[.string (bsA l), .string (bsA p ++ ⟨#[61]⟩)] w fun e w' => e = .returned (.bool b) ∧ w' = w := by
  have hc := Try.strings_HasPrefix (bsA l) (bsA p ++ ⟨#[61]⟩) w
  rw [app61, bsA_list, h] at hc
  exact hc
theorem prefix_ok (k : UInt8) (v : List UInt8) : Lib.hasPrefix (k :: 61 :: v) ([k] ++ [61]) = true := by simp [Lib.hasPrefix, List.isPrefixOf]
theorem info49 : (Try.prog.info? 49).map (fun i => (i.zero, i.size, i.bytes)) = some (some (.agg #[.string ⟨#[]⟩, .string ⟨#[]⟩]), 2, 32) := by kernel_rfl
theorem info66 : (Try.prog.info? 66).map (fun i => (i.zero, i.size, i.bytes)) = some (some (.agg #[.string ⟨#[]⟩, .string ⟨#[]⟩, .slice none 0 0]), 3, 56) := by kernel_rfl
theorem k49 {w : World} {q : Nat} {a b : Value} (h : Blk w q 49 #[a, b]) : w.cell? ⟨q, 0, none⟩ = some a ∧ w.cell? ⟨q, 1, none⟩ = some b := ⟨h.cell 0, h.cell 1⟩
set_option maxRecDepth 8000 in
set_option maxHeartbeats 16000000 in
theorem parseP (I : Img) (M : List Res) (w : World) (s : ByteArray) (m : Int) (hst : St I M w) (hm : I.cell? ⟨0, 0, none⟩ = some (.int .i64 m)) (_ : s.size ≤ maxLen) :
    Calls Try.prog 10 #[.string s] w (Ret I (fun v J M' => I = J ∧ parQ 49 66 M (parseS s.data.toList) v M')) := by
  have hs1 := hst.alloc 33 zero5
  have HS := Lib.hid hs1
  have HM := Lib.hid hm
  obtain ⟨hcR, hfR, hlR⟩ := Blk.all (hs1.at 0 rfl)
  clear hst hs1 hm
  go_enter Try.func10, Try.ntmps10
  go_wp2
  go_step3
  by_cases h8 : 8192 < s.size
  · have h8' : (8192 : Int) < s.size := by omega
    have HE := Lib.hid (show parseS s.data.toList = (noSs, 0, 3) by unfold parseS; rw [if_pos (by rw [Array.length_toList]; exact h8)])
    go_wp2
    rw [Exit.noGoto_ret]
    refine bodyPost_ret (res10 _ _ ⟨#[]⟩ ⟨#[]⟩ ⟨#[]⟩ (.slice none 0 0) (.slice none 0 0) 0 3 _ rfl rfl rfl (HS.out.at 0 rfl)) rfl ?_
    refine Ret.mk (.refl I) ((HS.out.drop).nil (e := 49) (size := 2) |>.nil (e := 66) (size := 3)) ⟨rfl, ?_⟩
    rw [HE.out]
    exact parErr 49 66 M 0 3
  have h8' : (s.size : Int) ≤ 8192 := by omega
  have HE := Lib.hid (parseS_go (s := s.data.toList) (by rw [Array.length_toList]; exact h8))
  have hsz1 : ∀ (W : World) o, (W.alloc o).heap.size = W.heap.size + 1 := fun W o => Array.size_push ..
  have hs9 := (HS.out.alloc 33 zero5).alloc 60 #[.pointer (some ⟨w.heap.size + 1, 0, none⟩), .pointer (some ⟨w.heap.size + 1, 1, none⟩), .pointer (some ⟨w.heap.size + 1, 2, none⟩)]
  rw [hsz1, hsz1] at hs9
  have HS9 := Lib.hid hs9
  clear h8 HS hcR hfR hlR hsz1 hs9
  go_wp2
  go_step3
  rename_i hK
  refine hK _ _ ?_
  clear hK
  refine wp_seq_k fun K hK => ?_
  refine wp_block ?_
  have hs9 := HS9.out
  clear HS9
  generalize World.alloc (World.alloc (World.alloc _ _) _) _ = W at hs9 ⊢
  generalize w.heap.size + 1 + 1 = h at hs9 ⊢
  generalize w.heap.size + 1 = q at hs9 ⊢
  generalize w.heap.size = r at hs9 ⊢
  have HS := Lib.hid hs9
  clear hs9
  go_loopw [0, 7, 8, 9, 10] (fun sv pl nv bv fv wr => ∃ (s2 : ByteArray) (i : Nat) (x : Ss) (cn : Bool) (b : Nat) (vA vP : Value) (pv : List (Pa × Value)), i + s2.size ≤ 8192 ∧ b ≤ i ∧ sv = .string s2 ∧ nv = .int .i64 i ∧ bv = .int .i64 b ∧ fv = .int .i64 0 ∧ Hid (HalfM s.data.toList q r h M I s2 i x cn b vA vP pv pl wr)) (fun sv _ _ _ _ _ => strLen sv)
  case atStart =>
    refine ⟨s, 0, noSs, false, 0, .slice none 0 0, .slice none 0 0, [], by omega, by omega, rfl, rfl, rfl, rfl, Lib.hid ⟨HE.out, ⟨rfl, by simp, by simp [noSs], fun p hp => by cases hp⟩, .inl ⟨rfl, rfl⟩, rfl, fun h => (by cases h), .inl rfl, ?_⟩⟩
    exact (HS.out.swap1.dn1.nil (e := 49) (size := 2) |>.nil (e := 66) (size := 3))
  case round =>
    obtain ⟨s2, i, x, cn, b, vA, vP, pv, hsz, hbi, rfl, rfl, rfl, rfl, hh⟩ := hrel
    clear HS HE
    by_cases h0 : s2.size = 0
    · as_aux_lemma =>
      have he := isEmpty_yes h0
      have hE : parseS s.data.toList = if i < 4 then (noSs, (i : Int) + 1, 2) else (x, 0, 0) := by
        have h00 : s2.data.toList = [] := List.length_eq_zero_iff.1 (by rw [Array.length_toList]; exact h0)
        have := hh.out.run
        rw [h00, goS_nil] at this
        exact this
      have hs2 := hh.out.st
      obtain ⟨aA, cA, rfl⟩ := own_form (show World.ownsRow _ 0 49 2 vA _ _ from hs2.at 1 rfl)
      obtain ⟨aP, cP, rfl⟩ := own_form (show World.ownsRow _ 0 66 3 vP _ _ from hs2.at 0 rfl)
      have hpt := hh.out.small.parts
      have HPT := Lib.hid hpt
      obtain ⟨hcQ, hfQ, hlQ⟩ := Blk.all (hs2.at 2 rfl); obtain ⟨hcR, hfR, hlR⟩ := Blk.all (hs2.at 3 rfl); obtain ⟨hcH, hfH, hlH⟩ := Blk.all (hs2.at 4 rfl); have HS := Lib.hid hs2; clear hs2
      clear hh hpt
      by_cases h4 : i < 4
      · have HEX := Lib.hid (show parseS s.data.toList = (noSs, (i : Int) + 1, 2) by rw [hE, if_pos h4])
        have h4' : (i : Int) < 4 := by omega
        clear hE h4
        go_wp2
        (try rw [Exit.noGoto_ret]); have hs5 := (((((half_err HS.out).set 0 (.string ⟨#[]⟩)).set 1 (.string ⟨#[]⟩)).set 2 (.string ⟨#[]⟩)).set 3 (.slice none 0 0)).set 4 (.slice none 0 0); refine bodyPost_ret (res10 _ _ ⟨#[]⟩ ⟨#[]⟩ ⟨#[]⟩ (.slice none 0 0) (.slice none 0 0) _ _ _ rfl rfl rfl (hs5.at 0 rfl)) rfl ?_; refine Ret.mk (.refl I) ((hs5.drop).nil (e := 49) (size := 2) |>.nil (e := 66) (size := 3)) ⟨rfl, ?_⟩; rw [HEX.out]; exact parErr 49 66 M _ _
      · have HEX := Lib.hid (show parseS s.data.toList = (x, 0, 0) by rw [hE, if_neg h4])
        have h4' : (4 : Int) ≤ i := by omega
        clear hE h4
        have hs5 := ((((HS.out.set3 0 (.string x.origin)).set3 1 (.string x.name)).set3 2 (.string x.time)).set3 3 (.slice aA x.attrs.length cA)).set3 4 (.slice aP pv.length cP)
        have H5 := Lib.hid hs5
        clear hs5
        go_wp2
        try rw [Exit.noGoto_ret]
        refine bodyPost_ret (res10 _ _ x.origin x.name x.time (.slice aA x.attrs.length cA) (.slice aP pv.length cP) 0 0 _ rfl rfl rfl (H5.out.at 3 rfl)) rfl ?_
        refine Ret.mk (.refl I) H5.out.swap2.drop.swap2.drop.swap2.drop.swap1 ⟨rfl, ?_⟩
        rw [HEX.out]
        exact ⟨_, _, pv, HPT.out, rfl, rfl⟩
    · have he := isEmpty_no h0
      have hs := hh.out.st
      have HS := Lib.hid hs
      clear hs
      obtain ⟨⟨l, r2, ended⟩, hc1⟩ : ∃ t, Lib.cut s2.data.toList crlf = t := ⟨_, rfl⟩
      have hl1 := cut_len hc1
      have HC1 := Lib.hid hc1
      have hl8 : l.length ≤ 8192 := by have := hl1.1; rw [show s2.data.toList.length = s2.size from Array.length_toList ..] at this; omega
      have HL8 := Lib.hid (show (bsA l).size ≤ 1000000 by rw [bsA_size]; omega)
      cases ended
      · as_aux_lemma =>
        have HEX := Lib.hid (show parseS s.data.toList = (noSs, (i : Int) + 1, 2) from hh.out.run.trans (goS_tail (by
          intro e
          have : s2.size = 0 := by show s2.data.size = 0; rw [← Array.length_toList, e]; rfl
          exact h0 this) (by rw [hc1]) i cn x))
        obtain ⟨⟨kd, v, fd⟩, hc2⟩ : ∃ t, Lib.cut l [61] = t := ⟨_, rfl⟩
        have HC2 := Lib.hid hc2
        clear hc1 hc2 hl1 hh
        go_upto_region 10 with (go_at_call 19; refine (cutP (m := m) s2 ⟨#[13, 10]⟩ HS.out HM.out (by omega) HC1.out).mono ?_; clear HS; rintro e w2 ⟨rfl, hs2⟩; have HS := Lib.hid hs2; clear hs2)
        go_wp2_with (go_at_call 19; refine (cutP (m := m) (bsA l) ⟨#[61]⟩ HS.out HM.out HL8.out HC2.out).mono ?_; clear HS; rintro e w2 ⟨rfl, hs2⟩; obtain ⟨hcQ, hfQ, hlQ⟩ := Blk.all (hs2.at 2 rfl); obtain ⟨hcR, hfR, hlR⟩ := Blk.all (hs2.at 3 rfl); obtain ⟨hcH, hfH, hlH⟩ := Blk.all (hs2.at 4 rfl); have HS := Lib.hid hs2; clear hs2)
        (try rw [Exit.noGoto_ret]); have hs5 := (((((half_err HS.out).set 0 (.string ⟨#[]⟩)).set 1 (.string ⟨#[]⟩)).set 2 (.string ⟨#[]⟩)).set 3 (.slice none 0 0)).set 4 (.slice none 0 0); refine bodyPost_ret (res10 _ _ ⟨#[]⟩ ⟨#[]⟩ ⟨#[]⟩ (.slice none 0 0) (.slice none 0 0) _ _ _ rfl rfl rfl (hs5.at 0 rfl)) rfl ?_; refine Ret.mk (.refl I) ((hs5.drop).nil (e := 49) (size := 2) |>.nil (e := 66) (size := 3)) ⟨rfl, ?_⟩; rw [HEX.out]; exact parErr 49 66 M _ _
      · have hgl := goS_line hc1 i cn x
        have HNX := Lib.hid (hh.out.run.trans hgl.1)
        have hr2 : l.length + 2 + r2.length = s2.size := by have := hgl.2; rwa [show s2.data.toList.length = s2.size from Array.length_toList ..] at this
        have hz2 := bsA_size r2
        have hlo := hh.out.low
        clear hgl hl1
        rcases kind_ways l with ⟨k, v, rfl, hk, hc2⟩ | ⟨hbad, hways⟩
        rotate_left
        · as_aux_lemma =>
          obtain ⟨⟨kd, v, fd⟩, hc2⟩ : ∃ t, Lib.cut l [61] = t := ⟨_, rfl⟩
          rw [hc2] at hways
          have HC2 := Lib.hid hc2
          have HEX := Lib.hid (show parseS s.data.toList = (noSs, (i : Int) + 1, 2) by rw [HNX.out, hbad])
          have hkz := bsA_size kd
          dsimp only at hways
          clear hc1 hc2 hbad hh hlo
          rcases hways with hne | ⟨heq, hpf⟩
          · have hb : ((kd.length : Int) != 1) = true := by simp; omega
            go_upto_region 10 with (go_at_call 19; refine (cutP (m := m) s2 ⟨#[13, 10]⟩ HS.out HM.out (by omega) HC1.out).mono ?_; clear HS; rintro e w2 ⟨rfl, hs2⟩; have HS := Lib.hid hs2; clear hs2)
            go_wp2_with (go_at_call 19; refine (cutP (m := m) (bsA l) ⟨#[61]⟩ HS.out HM.out HL8.out HC2.out).mono ?_; clear HS; rintro e w2 ⟨rfl, hs2⟩; obtain ⟨hcQ, hfQ, hlQ⟩ := Blk.all (hs2.at 2 rfl); obtain ⟨hcR, hfR, hlR⟩ := Blk.all (hs2.at 3 rfl); obtain ⟨hcH, hfH, hlH⟩ := Blk.all (hs2.at 4 rfl); have HS := Lib.hid hs2; clear hs2)
            (try rw [Exit.noGoto_ret]); have hs5 := (((((half_err HS.out).set 0 (.string ⟨#[]⟩)).set 1 (.string ⟨#[]⟩)).set 2 (.string ⟨#[]⟩)).set 3 (.slice none 0 0)).set 4 (.slice none 0 0); refine bodyPost_ret (res10 _ _ ⟨#[]⟩ ⟨#[]⟩ ⟨#[]⟩ (.slice none 0 0) (.slice none 0 0) _ _ _ rfl rfl rfl (hs5.at 0 rfl)) rfl ?_; refine Ret.mk (.refl I) ((hs5.drop).nil (e := 49) (size := 2) |>.nil (e := 66) (size := 3)) ⟨rfl, ?_⟩; rw [HEX.out]; exact parErr 49 66 M _ _
          · have hb : ((kd.length : Int) != 1) = false := by simp; omega
            have HPF := Lib.hid hpf
            clear hpf
            go_upto_region 10 with (go_at_call 19; refine (cutP (m := m) s2 ⟨#[13, 10]⟩ HS.out HM.out (by omega) HC1.out).mono ?_; clear HS; rintro e w2 ⟨rfl, hs2⟩; have HS := Lib.hid hs2; clear hs2)
            go_upto_region 14 with (go_at_call 19; refine (cutP (m := m) (bsA l) ⟨#[61]⟩ HS.out HM.out HL8.out HC2.out).mono ?_; clear HS; rintro e w2 ⟨rfl, hs2⟩; obtain ⟨hcQ, hfQ, hlQ⟩ := Blk.all (hs2.at 2 rfl); obtain ⟨hcR, hfR, hlR⟩ := Blk.all (hs2.at 3 rfl); obtain ⟨hcH, hfH, hlH⟩ := Blk.all (hs2.at 4 rfl); have HS := Lib.hid hs2; clear hs2)
            go_wp2_with (go_at_call 20; refine (prefixP _ l kd false HPF.out).mono ?_; rintro e w3 ⟨rfl, hw3⟩; subst w3)
            (try rw [Exit.noGoto_ret]); have hs5 := (((((half_err HS.out).set 0 (.string ⟨#[]⟩)).set 1 (.string ⟨#[]⟩)).set 2 (.string ⟨#[]⟩)).set 3 (.slice none 0 0)).set 4 (.slice none 0 0); refine bodyPost_ret (res10 _ _ ⟨#[]⟩ ⟨#[]⟩ ⟨#[]⟩ (.slice none 0 0) (.slice none 0 0) _ _ _ rfl rfl rfl (hs5.at 0 rfl)) rfl ?_; refine Ret.mk (.refl I) ((hs5.drop).nil (e := 49) (size := 2) |>.nil (e := 66) (size := 3)) ⟨rfl, ?_⟩; rw [HEX.out]; exact parErr 49 66 M _ _
        have HC2 := Lib.hid hc2
        have hv8 : v.length ≤ 8190 := by simp at hl8; omega
        have HV8 := Lib.hid (show (bsA v).size ≤ 1000000 by rw [bsA_size]; omega)
        have hvz : (bsA v).size ≤ maxLen := by rw [bsA_size]; unfold maxLen; omega
        clear hc1 hc2
        go_upto_region 10 with (go_at_call 19; refine (cutP (m := m) s2 ⟨#[13, 10]⟩ HS.out HM.out (by omega) HC1.out).mono ?_; clear HS; rintro e w2 ⟨rfl, hs2⟩; have HS := Lib.hid hs2; clear hs2)
        go_upto_region 14 with (go_at_call 19; refine (cutP (m := m) (bsA (k :: 61 :: v)) ⟨#[61]⟩ HS.out HM.out HL8.out HC2.out).mono ?_; clear HS; rintro e w2 ⟨rfl, hs2⟩; obtain ⟨hcQ, hfQ, hlQ⟩ := Blk.all (hs2.at 2 rfl); obtain ⟨hcR, hfR, hlR⟩ := Blk.all (hs2.at 3 rfl); obtain ⟨hcH, hfH, hlH⟩ := Blk.all (hs2.at 4 rfl); have HS := Lib.hid hs2; clear hs2)
        go_upto_region 15 with (go_at_call 20; refine (prefixP _ (k :: 61 :: v) [k] true (prefix_ok k v)).mono ?_; rintro e w3 ⟨rfl, hw3⟩; subst w3)
        obtain ⟨vb, hvb⟩ : ∃ vb, vb = valB (bsA v) 200 := ⟨_, rfl⟩
        have HVB := Lib.hid hvb
        have hvl := bsA_size v
        clear hvb hl8 hv8 HL8 HC1 HC2 hk h0 he
        by_cases hi0 : i = 0
        · as_aux_lemma =>
          subst hi0
          cases hb : (k == 118 && v == [48])
          · have HE9 := Lib.hid (show stepS 0 cn x (k :: 61 :: v) = .error 2 by
              show (if k = 118 ∧ v = [48] then _ else _) = _
              rw [if_neg]
              rintro ⟨rfl, rfl⟩
              cases hb)
            have HEX := Lib.hid (show parseS s.data.toList = (noSs, ((0 : Nat) : Int) + 1, 2) by rw [HNX.out, HE9.out])
            have hbp : k = 118 → ¬ v = [48] := by
              rintro rfl rfl
              cases hb
            clear hh
            go_wp2
            (try rw [Exit.noGoto_ret]); have hs5 := (((((half_err HS.out).set 0 (.string ⟨#[]⟩)).set 1 (.string ⟨#[]⟩)).set 2 (.string ⟨#[]⟩)).set 3 (.slice none 0 0)).set 4 (.slice none 0 0); refine bodyPost_ret (res10 _ _ ⟨#[]⟩ ⟨#[]⟩ ⟨#[]⟩ (.slice none 0 0) (.slice none 0 0) _ _ _ rfl rfl rfl (hs5.at 0 rfl)) rfl ?_; refine Ret.mk (.refl I) ((hs5.drop).nil (e := 49) (size := 2) |>.nil (e := 66) (size := 3)) ⟨rfl, ?_⟩; rw [HEX.out]; exact parErr 49 66 M _ _
          · simp only [Bool.and_eq_true, beq_iff_eq] at hb
            obtain ⟨rfl, rfl⟩ := hb
            have HE9 := Lib.hid (show stepS 0 cn x [118, 61, 48] = .ok (x, cn) from rfl)
            go_wp2
            go_roundw
            case rel =>
              have hf := hh.out
              refine ⟨bsA r2, 1, x, cn, b, vA, vP, pv, by omega, by omega, rfl, rfl, rfl, rfl, Lib.hid ⟨HNX.out.trans (by rw [HE9.out]), hf.small, hf.place, ?_, hf.begun, hf.low, HS.out⟩⟩
              rw [hf.conn]
              have : b = 0 := by omega
              subst this
              rfl
            case measure => show (bsA r2).size < s2.size; rw [hz2]; omega
        by_cases hi1 : i = 1
        · as_aux_lemma =>
          subst hi1
          have hx : (⟨#[111, 115, 116]⟩ : ByteArray).extract 0 1 = bsA [111] := rfl
          cases hb : (k == 111)
          · have HE9 := Lib.hid (show stepS 1 cn x (k :: 61 :: v) = .error 2 by
              show (if k = 111 ∧ valB (bsA v) 200 = true then _ else _) = _
              rw [if_neg]
              rintro ⟨h, _⟩
              rw [h] at hb
              cases hb)
            have HEX := Lib.hid (show parseS s.data.toList = (noSs, ((1 : Nat) : Int) + 1, 2) by rw [HNX.out, HE9.out])
            have hbp : ¬ k = 111 := by simpa using hb
            clear hh
            go_wp2
            (try rw [Exit.noGoto_ret]); have hs5 := (((((half_err HS.out).set 0 (.string ⟨#[]⟩)).set 1 (.string ⟨#[]⟩)).set 2 (.string ⟨#[]⟩)).set 3 (.slice none 0 0)).set 4 (.slice none 0 0); refine bodyPost_ret (res10 _ _ ⟨#[]⟩ ⟨#[]⟩ ⟨#[]⟩ (.slice none 0 0) (.slice none 0 0) _ _ _ rfl rfl rfl (hs5.at 0 rfl)) rfl ?_; refine Ret.mk (.refl I) ((hs5.drop).nil (e := 49) (size := 2) |>.nil (e := 66) (size := 3)) ⟨rfl, ?_⟩; rw [HEX.out]; exact parErr 49 66 M _ _
          · obtain rfl : k = 111 := by simpa using hb
            cases vb
            · have HE9 := Lib.hid (show stepS 1 cn x (111 :: 61 :: v) = .error 2 by
                show (if (111 : UInt8) = 111 ∧ valB (bsA v) 200 = true then _ else _) = _
                rw [if_neg]
                rintro ⟨_, h⟩
                rw [← HVB.out] at h
                cases h)
              have HEX := Lib.hid (show parseS s.data.toList = (noSs, ((1 : Nat) : Int) + 1, 2) by rw [HNX.out, HE9.out])
              clear hh
              go_wp2_with (go_at_call 21; refine (valueP2 (bsA v) HS.out hvz).mono ?_; rw [← HVB.out]; clear HS hcQ hfQ hlQ hcR hfR hlR hcH hfH hlH; rintro e w3 ⟨rfl, hs2⟩; obtain ⟨hcQ, hfQ, hlQ⟩ := Blk.all (hs2.at 2 rfl); obtain ⟨hcR, hfR, hlR⟩ := Blk.all (hs2.at 3 rfl); obtain ⟨hcH, hfH, hlH⟩ := Blk.all (hs2.at 4 rfl); have HS := Lib.hid hs2; clear hs2)
              (try rw [Exit.noGoto_ret]); have hs5 := (((((half_err HS.out).set 0 (.string ⟨#[]⟩)).set 1 (.string ⟨#[]⟩)).set 2 (.string ⟨#[]⟩)).set 3 (.slice none 0 0)).set 4 (.slice none 0 0); refine bodyPost_ret (res10 _ _ ⟨#[]⟩ ⟨#[]⟩ ⟨#[]⟩ (.slice none 0 0) (.slice none 0 0) _ _ _ rfl rfl rfl (hs5.at 0 rfl)) rfl ?_; refine Ret.mk (.refl I) ((hs5.drop).nil (e := 49) (size := 2) |>.nil (e := 66) (size := 3)) ⟨rfl, ?_⟩; rw [HEX.out]; exact parErr 49 66 M _ _
            · have HE9 := Lib.hid (show stepS 1 cn x (111 :: 61 :: v) = .ok ({ x with origin := bsA v }, cn) by
                show (if (111 : UInt8) = 111 ∧ valB (bsA v) 200 = true then _ else _) = _
                rw [if_pos ⟨rfl, HVB.out.symm⟩])
              go_wp2_with (go_at_call 21; refine (valueP2 (bsA v) HS.out hvz).mono ?_; rw [← HVB.out]; clear HS hcQ hfQ hlQ hcR hfR hlR hcH hfH hlH; rintro e w3 ⟨rfl, hs2⟩; obtain ⟨hcQ, hfQ, hlQ⟩ := Blk.all (hs2.at 2 rfl); obtain ⟨hcR, hfR, hlR⟩ := Blk.all (hs2.at 3 rfl); obtain ⟨hcH, hfH, hlH⟩ := Blk.all (hs2.at 4 rfl); have HS := Lib.hid hs2; clear hs2)
              go_roundw
              case rel =>
                have hf := hh.out
                refine ⟨bsA r2, 2, { x with origin := bsA v }, cn, b, vA, vP, pv, by omega, by omega, rfl, rfl, rfl, rfl, Lib.hid ⟨HNX.out.trans (by rw [HE9.out]), ⟨hf.small.parts, hf.small.few, hf.small.own, hf.small.each⟩, hf.place, ?_, hf.begun, hf.low, HS.out.set2 0 (.string (bsA v))⟩⟩
                rw [hf.conn]
                have : b = 0 := by omega
                subst this
                rfl
              case measure => show (bsA r2).size < s2.size; rw [hz2]; omega
        by_cases hi2 : i = 2
        · as_aux_lemma =>
          subst hi2
          have hx : (⟨#[111, 115, 116]⟩ : ByteArray).extract 1 2 = bsA [115] := rfl
          cases hb : (k == 115)
          · have HE9 := Lib.hid (show stepS 2 cn x (k :: 61 :: v) = .error 2 by
              show (if k = 115 ∧ valB (bsA v) 200 = true then _ else _) = _
              rw [if_neg]
              rintro ⟨h, _⟩
              rw [h] at hb
              cases hb)
            have HEX := Lib.hid (show parseS s.data.toList = (noSs, ((2 : Nat) : Int) + 1, 2) by rw [HNX.out, HE9.out])
            have hbp : ¬ k = 115 := by simpa using hb
            clear hh
            go_wp2
            (try rw [Exit.noGoto_ret]); have hs5 := (((((half_err HS.out).set 0 (.string ⟨#[]⟩)).set 1 (.string ⟨#[]⟩)).set 2 (.string ⟨#[]⟩)).set 3 (.slice none 0 0)).set 4 (.slice none 0 0); refine bodyPost_ret (res10 _ _ ⟨#[]⟩ ⟨#[]⟩ ⟨#[]⟩ (.slice none 0 0) (.slice none 0 0) _ _ _ rfl rfl rfl (hs5.at 0 rfl)) rfl ?_; refine Ret.mk (.refl I) ((hs5.drop).nil (e := 49) (size := 2) |>.nil (e := 66) (size := 3)) ⟨rfl, ?_⟩; rw [HEX.out]; exact parErr 49 66 M _ _
          · obtain rfl : k = 115 := by simpa using hb
            cases vb
            · have HE9 := Lib.hid (show stepS 2 cn x (115 :: 61 :: v) = .error 2 by
                show (if (115 : UInt8) = 115 ∧ valB (bsA v) 200 = true then _ else _) = _
                rw [if_neg]
                rintro ⟨_, h⟩
                rw [← HVB.out] at h
                cases h)
              have HEX := Lib.hid (show parseS s.data.toList = (noSs, ((2 : Nat) : Int) + 1, 2) by rw [HNX.out, HE9.out])
              clear hh
              go_wp2_with (go_at_call 21; refine (valueP2 (bsA v) HS.out hvz).mono ?_; rw [← HVB.out]; clear HS hcQ hfQ hlQ hcR hfR hlR hcH hfH hlH; rintro e w3 ⟨rfl, hs2⟩; obtain ⟨hcQ, hfQ, hlQ⟩ := Blk.all (hs2.at 2 rfl); obtain ⟨hcR, hfR, hlR⟩ := Blk.all (hs2.at 3 rfl); obtain ⟨hcH, hfH, hlH⟩ := Blk.all (hs2.at 4 rfl); have HS := Lib.hid hs2; clear hs2)
              (try rw [Exit.noGoto_ret]); have hs5 := (((((half_err HS.out).set 0 (.string ⟨#[]⟩)).set 1 (.string ⟨#[]⟩)).set 2 (.string ⟨#[]⟩)).set 3 (.slice none 0 0)).set 4 (.slice none 0 0); refine bodyPost_ret (res10 _ _ ⟨#[]⟩ ⟨#[]⟩ ⟨#[]⟩ (.slice none 0 0) (.slice none 0 0) _ _ _ rfl rfl rfl (hs5.at 0 rfl)) rfl ?_; refine Ret.mk (.refl I) ((hs5.drop).nil (e := 49) (size := 2) |>.nil (e := 66) (size := 3)) ⟨rfl, ?_⟩; rw [HEX.out]; exact parErr 49 66 M _ _
            · have HE9 := Lib.hid (show stepS 2 cn x (115 :: 61 :: v) = .ok ({ x with name := bsA v }, cn) by
                show (if (115 : UInt8) = 115 ∧ valB (bsA v) 200 = true then _ else _) = _
                rw [if_pos ⟨rfl, HVB.out.symm⟩])
              go_wp2_with (go_at_call 21; refine (valueP2 (bsA v) HS.out hvz).mono ?_; rw [← HVB.out]; clear HS hcQ hfQ hlQ hcR hfR hlR hcH hfH hlH; rintro e w3 ⟨rfl, hs2⟩; obtain ⟨hcQ, hfQ, hlQ⟩ := Blk.all (hs2.at 2 rfl); obtain ⟨hcR, hfR, hlR⟩ := Blk.all (hs2.at 3 rfl); obtain ⟨hcH, hfH, hlH⟩ := Blk.all (hs2.at 4 rfl); have HS := Lib.hid hs2; clear hs2)
              go_roundw
              case rel =>
                have hf := hh.out
                refine ⟨bsA r2, 3, { x with name := bsA v }, cn, b, vA, vP, pv, by omega, by omega, rfl, rfl, rfl, rfl, Lib.hid ⟨HNX.out.trans (by rw [HE9.out]), ⟨hf.small.parts, hf.small.few, hf.small.own, hf.small.each⟩, hf.place, ?_, hf.begun, hf.low, HS.out.set2 1 (.string (bsA v))⟩⟩
                rw [hf.conn]
                have : b = 0 := by omega
                subst this
                rfl
              case measure => show (bsA r2).size < s2.size; rw [hz2]; omega
        by_cases hi3 : i = 3
        · as_aux_lemma =>
          subst hi3
          have hx : (⟨#[111, 115, 116]⟩ : ByteArray).extract 2 3 = bsA [116] := rfl
          cases hb : (k == 116)
          · have HE9 := Lib.hid (show stepS 3 cn x (k :: 61 :: v) = .error 2 by
              show (if k = 116 ∧ valB (bsA v) 200 = true then _ else _) = _
              rw [if_neg]
              rintro ⟨h, _⟩
              rw [h] at hb
              cases hb)
            have HEX := Lib.hid (show parseS s.data.toList = (noSs, ((3 : Nat) : Int) + 1, 2) by rw [HNX.out, HE9.out])
            have hbp : ¬ k = 116 := by simpa using hb
            clear hh
            go_wp2
            (try rw [Exit.noGoto_ret]); have hs5 := (((((half_err HS.out).set 0 (.string ⟨#[]⟩)).set 1 (.string ⟨#[]⟩)).set 2 (.string ⟨#[]⟩)).set 3 (.slice none 0 0)).set 4 (.slice none 0 0); refine bodyPost_ret (res10 _ _ ⟨#[]⟩ ⟨#[]⟩ ⟨#[]⟩ (.slice none 0 0) (.slice none 0 0) _ _ _ rfl rfl rfl (hs5.at 0 rfl)) rfl ?_; refine Ret.mk (.refl I) ((hs5.drop).nil (e := 49) (size := 2) |>.nil (e := 66) (size := 3)) ⟨rfl, ?_⟩; rw [HEX.out]; exact parErr 49 66 M _ _
          · obtain rfl : k = 116 := by simpa using hb
            cases vb
            · have HE9 := Lib.hid (show stepS 3 cn x (116 :: 61 :: v) = .error 2 by
                show (if (116 : UInt8) = 116 ∧ valB (bsA v) 200 = true then _ else _) = _
                rw [if_neg]
                rintro ⟨_, h⟩
                rw [← HVB.out] at h
                cases h)
              have HEX := Lib.hid (show parseS s.data.toList = (noSs, ((3 : Nat) : Int) + 1, 2) by rw [HNX.out, HE9.out])
              clear hh
              go_wp2_with (go_at_call 21; refine (valueP2 (bsA v) HS.out hvz).mono ?_; rw [← HVB.out]; clear HS hcQ hfQ hlQ hcR hfR hlR hcH hfH hlH; rintro e w3 ⟨rfl, hs2⟩; obtain ⟨hcQ, hfQ, hlQ⟩ := Blk.all (hs2.at 2 rfl); obtain ⟨hcR, hfR, hlR⟩ := Blk.all (hs2.at 3 rfl); obtain ⟨hcH, hfH, hlH⟩ := Blk.all (hs2.at 4 rfl); have HS := Lib.hid hs2; clear hs2)
              (try rw [Exit.noGoto_ret]); have hs5 := (((((half_err HS.out).set 0 (.string ⟨#[]⟩)).set 1 (.string ⟨#[]⟩)).set 2 (.string ⟨#[]⟩)).set 3 (.slice none 0 0)).set 4 (.slice none 0 0); refine bodyPost_ret (res10 _ _ ⟨#[]⟩ ⟨#[]⟩ ⟨#[]⟩ (.slice none 0 0) (.slice none 0 0) _ _ _ rfl rfl rfl (hs5.at 0 rfl)) rfl ?_; refine Ret.mk (.refl I) ((hs5.drop).nil (e := 49) (size := 2) |>.nil (e := 66) (size := 3)) ⟨rfl, ?_⟩; rw [HEX.out]; exact parErr 49 66 M _ _
            · have HE9 := Lib.hid (show stepS 3 cn x (116 :: 61 :: v) = .ok ({ x with time := bsA v }, cn) by
                show (if (116 : UInt8) = 116 ∧ valB (bsA v) 200 = true then _ else _) = _
                rw [if_pos ⟨rfl, HVB.out.symm⟩])
              go_wp2_with (go_at_call 21; refine (valueP2 (bsA v) HS.out hvz).mono ?_; rw [← HVB.out]; clear HS hcQ hfQ hlQ hcR hfR hlR hcH hfH hlH; rintro e w3 ⟨rfl, hs2⟩; obtain ⟨hcQ, hfQ, hlQ⟩ := Blk.all (hs2.at 2 rfl); obtain ⟨hcR, hfR, hlR⟩ := Blk.all (hs2.at 3 rfl); obtain ⟨hcH, hfH, hlH⟩ := Blk.all (hs2.at 4 rfl); have HS := Lib.hid hs2; clear hs2)
              go_roundw
              case rel =>
                have hf := hh.out
                refine ⟨bsA r2, 4, { x with time := bsA v }, cn, b, vA, vP, pv, by omega, by omega, rfl, rfl, rfl, rfl, Lib.hid ⟨HNX.out.trans (by rw [HE9.out]), ⟨hf.small.parts, hf.small.few, hf.small.own, hf.small.each⟩, hf.place, ?_, hf.begun, hf.low, HS.out.set2 2 (.string (bsA v))⟩⟩
                rw [hf.conn]
                have : b = 0 := by omega
                subst this
                rfl
              case measure => show (bsA r2).size < s2.size; rw [hz2]; omega
        have hi4 : 4 ≤ i := by omega
        have hb1 : ((i : Int) + 1 == 1) = false := by simp; omega
        have hb4 : ¬ (i : Int) + 1 ≤ 4 := by omega
        have HE4 := Lib.hid (show stepS i cn x (k :: 61 :: v) = if k = 97 then (if (attrS v).2 = false then .error 2 else if placeLen x = 64 then .error 3 else .ok (addAttr x (attrS v).1, false))
            else if k = 109 ∧ valB (bsA v) 200 = true then (if x.parts.length = 8 then .error 3 else .ok ({ x with parts := x.parts ++ [⟨bsA v, ⟨#[]⟩, []⟩] }, true))
            else if k = 99 ∧ cn = true ∧ valB (bsA v) 200 = true then .ok (setConn x (bsA v), false)
            else .error 2 by
          show (if i = 0 then _ else if i = 1 then _ else if i = 2 then _ else if i = 3 then _ else _) = _
          rw [if_neg hi0, if_neg hi1, if_neg hi2, if_neg hi3])
        clear hi0 hi1 hi2 hi3
        cases ha : (k == 97)
        rotate_left
        · as_aux_lemma =>
          obtain rfl : k = 97 := by simpa using ha
          have HE5 := Lib.hid (show stepS i cn x (97 :: 61 :: v) = if (attrS v).2 = false then .error 2 else if placeLen x = 64 then .error 3 else .ok (addAttr x (attrS v).1, false) by
            rw [HE4.out, if_pos rfl])
          obtain ⟨⟨nm, vl, col⟩, hc3⟩ : ∃ t, Lib.cut v [58] = t := ⟨_, rfl⟩
          obtain ⟨hat1, hat2⟩ := attr_ways hc3
          rw [hat1, hat2] at HE5
          have hcl := cut_len hc3
          have HC3 := Lib.hid hc3
          have hnz : (bsA nm).size ≤ maxLen := by rw [bsA_size]; rw [bsA_size] at hvz; omega
          have hlz : (bsA vl).size ≤ maxLen := by rw [bsA_size]; rw [bsA_size] at hvz; omega
          have hlz2 := bsA_size vl
          obtain ⟨P, va, la, N, gp, op, rfl, hpn, hl64, hperm, hcel, hset, hnew⟩ := place_ways (TS := 33) (TA := 49) (TP := 66) (q := q) (r := r) (vA := vA) (vP := vP) (L := [bk h 60 #[.pointer (some ⟨q, 0, none⟩), .pointer (some ⟨q, 1, none⟩), .pointer (some ⟨q, 2, none⟩)]]) (M := M) hh.out.small hh.out.place
          have HPM := Lib.hid hperm
          have HCE := Lib.hid hcel
          have HST := Lib.hid hset
          have HNW := Lib.hid hnew
          rw [hpn] at HE5
          obtain ⟨gd, hgd⟩ : ∃ gd, gd = goodB (bsA nm) (bsA vl) := ⟨_, rfl⟩
          have HGD := Lib.hid hgd
          rw [← hgd] at HE5
          clear ha HE4 HVB vb hc3 hat1 hat2 hcl hperm hcel hset hnew hpn hgd
          by_cases hok : (gd && !(col && decide (vl.length = 0))) = true
          rotate_left
          · have hok2 := Bool.eq_false_iff.2 hok
            have HEX := Lib.hid (show parseS s.data.toList = (noSs, (i : Int) + 1, 2) by rw [HNX.out, HE5.out, if_pos hok2])
            clear hok HE5 hh
            cases gd
            · go_wp2_with (first | (go_at_call 19; refine (cutP (m := m) (bsA v) ⟨#[58]⟩ HS.out HM.out HV8.out HC3.out).mono ?_; clear HS hcQ hfQ hlQ hcR hfR hlR hcH hfH hlH; rintro e w3 ⟨rfl, hs3⟩; have HS := Lib.hid (hs3.alloc 49 #[.string (bsA nm), .string (bsA vl)]); clear hs3) | (go_at_call 22; refine (goodP2 (bsA nm) (bsA vl) HS.out hnz hlz).mono ?_; rw [← HGD.out]; clear HS; rintro e w4 ⟨rfl, hs4⟩; obtain ⟨hcE, hfE, hlE⟩ := Blk.all (hs4.at 0 rfl); have hs2 := hs4.drop; have hp2 := hs2.perm HPM.out; obtain ⟨hc2, hf2, hg2⟩ := HCE.out _ _ (hp2.at 0 rfl); obtain ⟨aV, cV, rfl⟩ := own_form (show World.ownsRow _ 0 49 2 va _ _ from hp2.at 1 rfl); have HS4 := Lib.hid hs4; clear hs4 hp2; obtain ⟨hcQ, hfQ, hlQ⟩ := Blk.all (hs2.at 2 rfl); obtain ⟨hcR, hfR, hlR⟩ := Blk.all (hs2.at 3 rfl); obtain ⟨hcH, hfH, hlH⟩ := Blk.all (hs2.at 4 rfl); have HS := Lib.hid hs2; clear hs2))
              (try rw [Exit.noGoto_ret]); have hs5 := (((((half_err HS.out).set 0 (.string ⟨#[]⟩)).set 1 (.string ⟨#[]⟩)).set 2 (.string ⟨#[]⟩)).set 3 (.slice none 0 0)).set 4 (.slice none 0 0); refine bodyPost_ret (res10 _ _ ⟨#[]⟩ ⟨#[]⟩ ⟨#[]⟩ (.slice none 0 0) (.slice none 0 0) _ _ _ rfl rfl rfl (hs5.at 0 rfl)) rfl ?_; refine Ret.mk (.refl I) ((hs5.drop).nil (e := 49) (size := 2) |>.nil (e := 66) (size := 3)) ⟨rfl, ?_⟩; rw [HEX.out]; exact parErr 49 66 M _ _
            · cases col
              · cases hok2
              · have h00 : vl.length = 0 := by simpa using hok2
                have hem := emp_yes h00
                clear hok2
                go_wp2_with (first | (go_at_call 19; refine (cutP (m := m) (bsA v) ⟨#[58]⟩ HS.out HM.out HV8.out HC3.out).mono ?_; clear HS hcQ hfQ hlQ hcR hfR hlR hcH hfH hlH; rintro e w3 ⟨rfl, hs3⟩; have HS := Lib.hid (hs3.alloc 49 #[.string (bsA nm), .string (bsA vl)]); clear hs3) | (go_at_call 22; refine (goodP2 (bsA nm) (bsA vl) HS.out hnz hlz).mono ?_; rw [← HGD.out]; clear HS; rintro e w4 ⟨rfl, hs4⟩; obtain ⟨hcE, hfE, hlE⟩ := Blk.all (hs4.at 0 rfl); have hs2 := hs4.drop; have hp2 := hs2.perm HPM.out; obtain ⟨hc2, hf2, hg2⟩ := HCE.out _ _ (hp2.at 0 rfl); obtain ⟨aV, cV, rfl⟩ := own_form (show World.ownsRow _ 0 49 2 va _ _ from hp2.at 1 rfl); have HS4 := Lib.hid hs4; clear hs4 hp2; obtain ⟨hcQ, hfQ, hlQ⟩ := Blk.all (hs2.at 2 rfl); obtain ⟨hcR, hfR, hlR⟩ := Blk.all (hs2.at 3 rfl); obtain ⟨hcH, hfH, hlH⟩ := Blk.all (hs2.at 4 rfl); have HS := Lib.hid hs2; clear hs2))
                (try rw [Exit.noGoto_ret]); have hs5 := (((((half_err HS.out).set 0 (.string ⟨#[]⟩)).set 1 (.string ⟨#[]⟩)).set 2 (.string ⟨#[]⟩)).set 3 (.slice none 0 0)).set 4 (.slice none 0 0); refine bodyPost_ret (res10 _ _ ⟨#[]⟩ ⟨#[]⟩ ⟨#[]⟩ (.slice none 0 0) (.slice none 0 0) _ _ _ rfl rfl rfl (hs5.at 0 rfl)) rfl ?_; refine Ret.mk (.refl I) ((hs5.drop).nil (e := 49) (size := 2) |>.nil (e := 66) (size := 3)) ⟨rfl, ?_⟩; rw [HEX.out]; exact parErr 49 66 M _ _
          · have HE6 := Lib.hid (HE5.out.trans (if_neg (by rw [hok]; decide)))
            simp only [Bool.and_eq_true] at hok
            obtain ⟨rfl, hok2⟩ := hok
            clear HE5
            by_cases h64 : la.length = 64
            · have HEX := Lib.hid (show parseS s.data.toList = (noSs, (i : Int) + 1, 3) by rw [HNX.out, HE6.out, if_pos h64])
              have hdb : ((la.length : Int) == 64) = true := by simp; omega
              clear HE6 hh
              cases col
              · go_wp2_with (first | (go_at_call 19; refine (cutP (m := m) (bsA v) ⟨#[58]⟩ HS.out HM.out HV8.out HC3.out).mono ?_; clear HS hcQ hfQ hlQ hcR hfR hlR hcH hfH hlH; rintro e w3 ⟨rfl, hs3⟩; have HS := Lib.hid (hs3.alloc 49 #[.string (bsA nm), .string (bsA vl)]); clear hs3) | (go_at_call 22; refine (goodP2 (bsA nm) (bsA vl) HS.out hnz hlz).mono ?_; rw [← HGD.out]; clear HS; rintro e w4 ⟨rfl, hs4⟩; obtain ⟨hcE, hfE, hlE⟩ := Blk.all (hs4.at 0 rfl); have hs2 := hs4.drop; have hp2 := hs2.perm HPM.out; obtain ⟨hc2, hf2, hg2⟩ := HCE.out _ _ (hp2.at 0 rfl); obtain ⟨aV, cV, rfl⟩ := own_form (show World.ownsRow _ 0 49 2 va _ _ from hp2.at 1 rfl); have HS4 := Lib.hid hs4; clear hs4 hp2; obtain ⟨hcQ, hfQ, hlQ⟩ := Blk.all (hs2.at 2 rfl); obtain ⟨hcR, hfR, hlR⟩ := Blk.all (hs2.at 3 rfl); obtain ⟨hcH, hfH, hlH⟩ := Blk.all (hs2.at 4 rfl); have HS := Lib.hid hs2; clear hs2))
                (try rw [Exit.noGoto_ret]); have hs5 := (((((half_err HS.out).set 0 (.string ⟨#[]⟩)).set 1 (.string ⟨#[]⟩)).set 2 (.string ⟨#[]⟩)).set 3 (.slice none 0 0)).set 4 (.slice none 0 0); refine bodyPost_ret (res10 _ _ ⟨#[]⟩ ⟨#[]⟩ ⟨#[]⟩ (.slice none 0 0) (.slice none 0 0) _ _ _ rfl rfl rfl (hs5.at 0 rfl)) rfl ?_; refine Ret.mk (.refl I) ((hs5.drop).nil (e := 49) (size := 2) |>.nil (e := 66) (size := 3)) ⟨rfl, ?_⟩; rw [HEX.out]; exact parErr 49 66 M _ _
              · have h00 : ¬ vl.length = 0 := by simpa using hok2
                have hem := emp_no h00
                clear hok2
                go_wp2_with (first | (go_at_call 19; refine (cutP (m := m) (bsA v) ⟨#[58]⟩ HS.out HM.out HV8.out HC3.out).mono ?_; clear HS hcQ hfQ hlQ hcR hfR hlR hcH hfH hlH; rintro e w3 ⟨rfl, hs3⟩; have HS := Lib.hid (hs3.alloc 49 #[.string (bsA nm), .string (bsA vl)]); clear hs3) | (go_at_call 22; refine (goodP2 (bsA nm) (bsA vl) HS.out hnz hlz).mono ?_; rw [← HGD.out]; clear HS; rintro e w4 ⟨rfl, hs4⟩; obtain ⟨hcE, hfE, hlE⟩ := Blk.all (hs4.at 0 rfl); have hs2 := hs4.drop; have hp2 := hs2.perm HPM.out; obtain ⟨hc2, hf2, hg2⟩ := HCE.out _ _ (hp2.at 0 rfl); obtain ⟨aV, cV, rfl⟩ := own_form (show World.ownsRow _ 0 49 2 va _ _ from hp2.at 1 rfl); have HS4 := Lib.hid hs4; clear hs4 hp2; obtain ⟨hcQ, hfQ, hlQ⟩ := Blk.all (hs2.at 2 rfl); obtain ⟨hcR, hfR, hlR⟩ := Blk.all (hs2.at 3 rfl); obtain ⟨hcH, hfH, hlH⟩ := Blk.all (hs2.at 4 rfl); have HS := Lib.hid hs2; clear hs2))
                (try rw [Exit.noGoto_ret]); have hs5 := (((((half_err HS.out).set 0 (.string ⟨#[]⟩)).set 1 (.string ⟨#[]⟩)).set 2 (.string ⟨#[]⟩)).set 3 (.slice none 0 0)).set 4 (.slice none 0 0); refine bodyPost_ret (res10 _ _ ⟨#[]⟩ ⟨#[]⟩ ⟨#[]⟩ (.slice none 0 0) (.slice none 0 0) _ _ _ rfl rfl rfl (hs5.at 0 rfl)) rfl ?_; refine Ret.mk (.refl I) ((hs5.drop).nil (e := 49) (size := 2) |>.nil (e := 66) (size := 3)) ⟨rfl, ?_⟩; rw [HEX.out]; exact parErr 49 66 M _ _
            · have HE7 := Lib.hid (show stepS i cn x (97 :: 61 :: v) = .ok (addAttr x ⟨bsA nm, bsA vl⟩, false) from HE6.out.trans (if_neg h64))
              have hln : (la.length : Int) < 64 := by omega
              have hdb : ((la.length : Int) == 64) = false := by simp; omega
              clear HE6 h64
              have hways : col = false ∨ (col = true ∧ vl.isEmpty = false) := by
                cases col
                · exact .inl rfl
                · exact .inr ⟨rfl, emp_no (by simpa using hok2)⟩
              clear hok2
              rcases hways with rfl | ⟨rfl, hem⟩
              all_goals
                go_upto_region 26 with (first | (go_at_call 19; refine (cutP (m := m) (bsA v) ⟨#[58]⟩ HS.out HM.out HV8.out HC3.out).mono ?_; clear HS hcQ hfQ hlQ hcR hfR hlR hcH hfH hlH; rintro e w3 ⟨rfl, hs3⟩; have HS := Lib.hid (hs3.alloc 49 #[.string (bsA nm), .string (bsA vl)]); clear hs3) | (go_at_call 22; refine (goodP2 (bsA nm) (bsA vl) HS.out hnz hlz).mono ?_; rw [← HGD.out]; clear HS; rintro e w4 ⟨rfl, hs4⟩; obtain ⟨hcE, hfE, hlE⟩ := Blk.all (hs4.at 0 rfl); have hs2 := hs4.drop; have hp2 := hs2.perm HPM.out; obtain ⟨hc2, hf2, hg2⟩ := HCE.out _ _ (hp2.at 0 rfl); obtain ⟨aV, cV, rfl⟩ := own_form (show World.ownsRow _ 0 49 2 va _ _ from hp2.at 1 rfl); have HS4 := Lib.hid hs4; clear hs4 hp2; obtain ⟨hcQ, hfQ, hlQ⟩ := Blk.all (hs2.at 2 rfl); obtain ⟨hcR, hfR, hlR⟩ := Blk.all (hs2.at 3 rfl); obtain ⟨hcH, hfH, hlH⟩ := Blk.all (hs2.at 4 rfl); have HS := Lib.hid hs2; clear hs2))
                have hs0 := HS4.out.perm (HPM.out.cons _)
                obtain ⟨e, he⟩ : ∃ e, e = w3.heap.size := ⟨_, rfl⟩
                rw [← he] at hs0 hcE hfE hlE ⊢
                clear he hc2 hf2 hg2 HS4 HPM HS hcE hfE hlE hcQ hfQ hlQ hcR hfR hlR hcH hfH hlH HGD
                try clear hem
                have hs : St I (bk e 49 #[.string (bsA nm), .string (bsA vl)] :: P (.slice aV la.length cV) :: row 49 2 (.slice aV la.length cV) la.length (flat atC la) :: N) (World.drew w4) := hs0.drew
                clear hs0
                obtain ⟨i5, hi5, hz0, hz1, hz2'⟩ := info_parts info49
                refine wp_region_held_drew (S := (fun w' => w'.cell? ⟨e, 0, none⟩ = some (.string (bsA nm)) ∧ w'.cell? ⟨e, 1, none⟩ = some (.string (bsA vl)))) (by kernel_rfl) (by (try dsimp only); first | exact k49 (hs.at 0 rfl) | exact k49 ((hs.grow _).at 0 rfl)) (fun hHeld => ?_)
                generalize World.drew w4 = W at hs hHeld ⊢
                refine wpAnyH_take (i := 0) (oi := _) (v := ?_) rfl (by kernel_rfl) (by kernel_rfl) (by kernel_rfl) (fun _ _ _ h => h) (Or.inl ⟨by rfl, ?_⟩) (by assumption) ?_
                rotate_left
                · (intro w hSw; (try dsimp only at hSw); go_simp; try with_reducible rfl)
                try simp only [Act.put, List.getElem_toArray, List.getElem_cons_zero, List.getElem_cons_succ, List.setIfInBounds_toArray, List.set_cons_zero, List.set_cons_succ]
                refine wpAnyH_take (i := 1) (oi := _) (v := ?_) rfl (by kernel_rfl) (by kernel_rfl) (by kernel_rfl) (fun _ _ _ h => h) (Or.inl ⟨by rfl, ?_⟩) (by assumption) ?_
                rotate_left
                · (intro w hSw; (try dsimp only at hSw); go_simp; try with_reducible rfl)
                try simp only [Act.put, List.getElem_toArray, List.getElem_cons_zero, List.getElem_cons_succ, List.setIfInBounds_toArray, List.set_cons_zero, List.set_cons_succ]
                refine wpAnyH_take (i := 2) (oi := _) (v := ?_) rfl (by kernel_rfl) (by kernel_rfl) (by kernel_rfl) (fun _ _ _ h => h) (Or.inl ⟨by rfl, ?_⟩) (by assumption) ?_
                rotate_left
                · (intro w hSw; (try dsimp only at hSw); go_simp; try with_reducible rfl)
                try simp only [Act.put, List.getElem_toArray, List.getElem_cons_zero, List.getElem_cons_succ, List.setIfInBounds_toArray, List.set_cons_zero, List.set_cons_succ]
                refine wpAnyH_take (i := 4) (oi := _) (v := ?_) rfl (by kernel_rfl) (by kernel_rfl) (by kernel_rfl) (fun _ _ _ h => h) (Or.inl ⟨by rfl, ?_⟩) (by assumption) ?_
                rotate_left
                · (intro w hSw; (try dsimp only at hSw); go_simp; try with_reducible rfl)
                try simp only [Act.put, List.getElem_toArray, List.getElem_cons_zero, List.getElem_cons_succ, List.setIfInBounds_toArray, List.set_cons_zero, List.set_cons_succ]
                refine wpAnyH_ready (rs := [3, 5]) (by kernel_rfl) (by simp) ?_
                refine (AllReadyH.cons (o := _) rfl (fun K hK => ?_) (AllReadyH.cons (o := _) rfl (fun K hK => ?_) AllReadyH.nil))
                · skip
                  have hcQ : W.cell? ⟨gp, op, none⟩ = some (.slice aV la.length cV) := (HCE.out _ _ (hs.at 1 rfl)).1
                  go_simp
                  try clear hHeld
                  refine hK.out _ _ (by (try dsimp only); first | exact k49 (hs.at 0 rfl) | exact k49 ((hs.grow _).at 0 rfl)) (fun hHeld => ?_)
                  clear hK K
                  try simp only [Act.put, List.getElem_toArray, List.getElem_cons_zero, List.getElem_cons_succ, List.setIfInBounds_toArray, List.set_cons_zero, List.set_cons_succ]
                  clear hcQ
                  refine wpAnyH_ready (rs := [5]) (by kernel_rfl) (by simp) ?_
                  refine (AllReadyH.cons (o := _) rfl (fun K hK => ?_) AllReadyH.nil)
                  have hsr := hs.litSrcV (P := Try.prog) (t := 30) (e := 49) (cs := #[.string (bsA nm), .string (bsA vl)]) (n := 1) (size := 2) rfl (by decide) Try.underlying30 (by simp [Value.oneCell'])
                  go_simp
                  try clear hHeld
                  refine hK.out _ _ (by (try dsimp only); first | exact k49 (hs.at 0 rfl) | exact k49 ((hs.grow _).at 0 rfl)) (fun hHeld => ?_)
                  clear hK K
                  try simp only [Act.put, List.getElem_toArray, List.getElem_cons_zero, List.getElem_cons_succ, List.setIfInBounds_toArray, List.set_cons_zero, List.set_cons_succ]
                  generalize hw : World.alloc W _ = W at hHeld hsr ⊢
                  replace hs := hs.growTo hw
                  clear hw
                  refine wpAnyH_ready (rs := [6]) (by kernel_rfl) (by simp) ?_
                  refine (AllReadyH.cons (o := _) rfl (fun K hK => ?_) AllReadyH.nil)
                  replace hs := hs.swap2
                  refine step_append_src _ (by rfl) _ _ 30 30 (by rfl) 0 49 i5 (.agg #[.string ⟨#[]⟩, .string ⟨#[]⟩]) 2 32 Try.underlying30 hi5 hz0 hz1 hz2' rfl _ la.length (flat atC la) (by rfl) hs.head _ 1 _ (by rfl) hsr (by unfold maxLen; omega) (by omega) (Nat.zero_le _) ?_
                  intro v' W hown' hgrow hat
                  have hown2 : W.ownsRow 0 49 2 v' (la.length + 1) (flat atC (la ++ [At.mk (bsA nm) (bsA vl)])) := by simpa [flat_append, flat] using hown'
                  obtain ⟨A10, c10, rfl⟩ := own_form hown2
                  replace hs := (hs.grown hgrow hown2 hat).swap2
                  clear hown' hown2 hgrow hat hsr
                  try clear hHeld
                  refine hK.out _ _ (by (try dsimp only); first | exact k49 (hs.at 0 rfl) | exact k49 ((hs.grow _).at 0 rfl)) (fun hHeld => ?_)
                  clear hK K
                  try simp only [Act.put, List.getElem_toArray, List.getElem_cons_zero, List.getElem_cons_succ, List.setIfInBounds_toArray, List.set_cons_zero, List.set_cons_succ]
                  refine wpAnyH_take (i := 7) (oi := _) (v := ?_) rfl (by kernel_rfl) (by kernel_rfl) (by kernel_rfl) (fun _ _ _ h => h) (Or.inl ⟨by rfl, ?_⟩) (by assumption) ?_
                  rotate_left
                  · (intro w hSw; (try dsimp only at hSw); go_simp; try with_reducible rfl)
                  try simp only [Act.put, List.getElem_toArray, List.getElem_cons_zero, List.getElem_cons_succ, List.setIfInBounds_toArray, List.set_cons_zero, List.set_cons_succ]
                  refine wpAnyH_ready (rs := [8]) (by kernel_rfl) (by simp) ?_
                  refine (AllReadyH.cons (o := _) rfl (fun K hK => ?_) AllReadyH.nil)
                  obtain ⟨hcQ, hfQ, hlQ⟩ := HCE.out _ _ (hs.at 1 rfl)
                  go_simp
                  replace hs := (HST.out _ _ _ _ (.slice A10 (la.length + 1) c10) hs.swap1).swap1
                  try clear hHeld
                  refine hK.out _ _ (by (try dsimp only); first | exact k49 (hs.at 0 rfl) | exact k49 ((hs.grow _).at 0 rfl)) (fun hHeld => ?_)
                  clear hK K
                  try simp only [Act.put, List.getElem_toArray, List.getElem_cons_zero, List.getElem_cons_succ, List.setIfInBounds_toArray, List.set_cons_zero, List.set_cons_succ]
                  clear hcQ hfQ hlQ
                  refine wpAnyH_done (by kernel_rfl) ?_ _
                  generalize World.setCell _ _ _ = W at hs ⊢
                  obtain ⟨vA', pv', hsm', hpl', _, hperm'⟩ := HNW.out ⟨bsA nm, bsA vl⟩ (.slice A10 (la.length + 1) c10) (by omega)
                  have HS9 := Lib.hid (hs.drop.perm hperm')
                  have HR9 := Lib.hid hsm'
                  have HP9 := Lib.hid hpl'
                  clear hs hperm' hsm' hpl'
                  go_wp2
                  go_roundw
                  case rel => exact ⟨bsA r2, i + 1, addAttr x ⟨bsA nm, bsA vl⟩, false, b, vA', vP, pv', by omega, by omega, rfl, by first | rfl | go_num, rfl, rfl, Lib.hid ⟨HNX.out.trans (by rw [HE7.out]), HR9.out, HP9.out, by rw [decide_eq_false (by omega : ¬ b = i + 1), Bool.and_false], fun h => (by cases h), hh.out.low, HS9.out⟩⟩
                  case measure => show (bsA r2).size < s2.size; rw [hz2]; omega
                · skip
                  have hsr := hs.litSrcV (P := Try.prog) (t := 30) (e := 49) (cs := #[.string (bsA nm), .string (bsA vl)]) (n := 1) (size := 2) rfl (by decide) Try.underlying30 (by simp [Value.oneCell'])
                  go_simp
                  try clear hHeld
                  refine hK.out _ _ (by (try dsimp only); first | exact k49 (hs.at 0 rfl) | exact k49 ((hs.grow _).at 0 rfl)) (fun hHeld => ?_)
                  clear hK K
                  try simp only [Act.put, List.getElem_toArray, List.getElem_cons_zero, List.getElem_cons_succ, List.setIfInBounds_toArray, List.set_cons_zero, List.set_cons_succ]
                  generalize hw : World.alloc W _ = W at hHeld hsr ⊢
                  replace hs := hs.growTo hw
                  clear hw
                  refine wpAnyH_ready (rs := [3]) (by kernel_rfl) (by simp) ?_
                  refine (AllReadyH.cons (o := _) rfl (fun K hK => ?_) AllReadyH.nil)
                  have hcQ : W.cell? ⟨gp, op, none⟩ = some (.slice aV la.length cV) := (HCE.out _ _ (hs.at 1 rfl)).1
                  go_simp
                  try clear hHeld
                  refine hK.out _ _ (by (try dsimp only); first | exact k49 (hs.at 0 rfl) | exact k49 ((hs.grow _).at 0 rfl)) (fun hHeld => ?_)
                  clear hK K
                  try simp only [Act.put, List.getElem_toArray, List.getElem_cons_zero, List.getElem_cons_succ, List.setIfInBounds_toArray, List.set_cons_zero, List.set_cons_succ]
                  clear hcQ
                  refine wpAnyH_ready (rs := [6]) (by kernel_rfl) (by simp) ?_
                  refine (AllReadyH.cons (o := _) rfl (fun K hK => ?_) AllReadyH.nil)
                  replace hs := hs.swap2
                  refine step_append_src _ (by rfl) _ _ 30 30 (by rfl) 0 49 i5 (.agg #[.string ⟨#[]⟩, .string ⟨#[]⟩]) 2 32 Try.underlying30 hi5 hz0 hz1 hz2' rfl _ la.length (flat atC la) (by rfl) hs.head _ 1 _ (by rfl) hsr (by unfold maxLen; omega) (by omega) (Nat.zero_le _) ?_
                  intro v' W hown' hgrow hat
                  have hown2 : W.ownsRow 0 49 2 v' (la.length + 1) (flat atC (la ++ [At.mk (bsA nm) (bsA vl)])) := by simpa [flat_append, flat] using hown'
                  obtain ⟨A10, c10, rfl⟩ := own_form hown2
                  replace hs := (hs.grown hgrow hown2 hat).swap2
                  clear hown' hown2 hgrow hat hsr
                  try clear hHeld
                  refine hK.out _ _ (by (try dsimp only); first | exact k49 (hs.at 0 rfl) | exact k49 ((hs.grow _).at 0 rfl)) (fun hHeld => ?_)
                  clear hK K
                  try simp only [Act.put, List.getElem_toArray, List.getElem_cons_zero, List.getElem_cons_succ, List.setIfInBounds_toArray, List.set_cons_zero, List.set_cons_succ]
                  refine wpAnyH_take (i := 7) (oi := _) (v := ?_) rfl (by kernel_rfl) (by kernel_rfl) (by kernel_rfl) (fun _ _ _ h => h) (Or.inl ⟨by rfl, ?_⟩) (by assumption) ?_
                  rotate_left
                  · (intro w hSw; (try dsimp only at hSw); go_simp; try with_reducible rfl)
                  try simp only [Act.put, List.getElem_toArray, List.getElem_cons_zero, List.getElem_cons_succ, List.setIfInBounds_toArray, List.set_cons_zero, List.set_cons_succ]
                  refine wpAnyH_ready (rs := [8]) (by kernel_rfl) (by simp) ?_
                  refine (AllReadyH.cons (o := _) rfl (fun K hK => ?_) AllReadyH.nil)
                  obtain ⟨hcQ, hfQ, hlQ⟩ := HCE.out _ _ (hs.at 1 rfl)
                  go_simp
                  replace hs := (HST.out _ _ _ _ (.slice A10 (la.length + 1) c10) hs.swap1).swap1
                  try clear hHeld
                  refine hK.out _ _ (by (try dsimp only); first | exact k49 (hs.at 0 rfl) | exact k49 ((hs.grow _).at 0 rfl)) (fun hHeld => ?_)
                  clear hK K
                  try simp only [Act.put, List.getElem_toArray, List.getElem_cons_zero, List.getElem_cons_succ, List.setIfInBounds_toArray, List.set_cons_zero, List.set_cons_succ]
                  clear hcQ hfQ hlQ
                  refine wpAnyH_done (by kernel_rfl) ?_ _
                  generalize World.setCell _ _ _ = W at hs ⊢
                  obtain ⟨vA', pv', hsm', hpl', _, hperm'⟩ := HNW.out ⟨bsA nm, bsA vl⟩ (.slice A10 (la.length + 1) c10) (by omega)
                  have HS9 := Lib.hid (hs.drop.perm hperm')
                  have HR9 := Lib.hid hsm'
                  have HP9 := Lib.hid hpl'
                  clear hs hperm' hsm' hpl'
                  go_wp2
                  go_roundw
                  case rel => exact ⟨bsA r2, i + 1, addAttr x ⟨bsA nm, bsA vl⟩, false, b, vA', vP, pv', by omega, by omega, rfl, by first | rfl | go_num, rfl, rfl, Lib.hid ⟨HNX.out.trans (by rw [HE7.out]), HR9.out, HP9.out, by rw [decide_eq_false (by omega : ¬ b = i + 1), Bool.and_false], fun h => (by cases h), hh.out.low, HS9.out⟩⟩
                  case measure => show (bsA r2).size < s2.size; rw [hz2]; omega
        cases hm : (k == 109)
        rotate_left
        · as_aux_lemma =>
          obtain rfl : k = 109 := by simpa using hm
          have HE5 := Lib.hid (show stepS i cn x (109 :: 61 :: v) = if vb = true then (if x.parts.length = 8 then .error 3 else .ok ({ x with parts := x.parts ++ [⟨bsA v, ⟨#[]⟩, []⟩] }, true)) else .error 2 by
            rw [HE4.out, if_neg (by decide), HVB.out]
            simp)
          have hpl : pv.length = x.parts.length := by rw [← hh.out.small.parts]; unfold partsOf; simp
          have hp8 := hh.out.small.few
          rw [← hpl] at HE5
          clear ha hm HE4 hpl
          obtain ⟨aP, cP, rfl⟩ := own_form (show World.ownsRow _ 0 66 3 vP _ _ from HS.out.at 0 rfl)
          cases vb
          · have HEX := Lib.hid (show parseS s.data.toList = (noSs, (i : Int) + 1, 2) by rw [HNX.out, HE5.out]; rfl)
            clear hh HE5
            go_wp2_with (go_at_call 21; refine (valueP2 (bsA v) HS.out hvz).mono ?_; rw [← HVB.out]; clear HS hcQ hfQ hlQ hcR hfR hlR hcH hfH hlH; rintro e w3 ⟨rfl, hs2⟩; obtain ⟨hcQ, hfQ, hlQ⟩ := Blk.all (hs2.at 2 rfl); obtain ⟨hcR, hfR, hlR⟩ := Blk.all (hs2.at 3 rfl); obtain ⟨hcH, hfH, hlH⟩ := Blk.all (hs2.at 4 rfl); have HS := Lib.hid hs2; clear hs2)
            (try rw [Exit.noGoto_ret]); have hs5 := (((((half_err HS.out).set 0 (.string ⟨#[]⟩)).set 1 (.string ⟨#[]⟩)).set 2 (.string ⟨#[]⟩)).set 3 (.slice none 0 0)).set 4 (.slice none 0 0); refine bodyPost_ret (res10 _ _ ⟨#[]⟩ ⟨#[]⟩ ⟨#[]⟩ (.slice none 0 0) (.slice none 0 0) _ _ _ rfl rfl rfl (hs5.at 0 rfl)) rfl ?_; refine Ret.mk (.refl I) ((hs5.drop).nil (e := 49) (size := 2) |>.nil (e := 66) (size := 3)) ⟨rfl, ?_⟩; rw [HEX.out]; exact parErr 49 66 M _ _
          · by_cases h8p : pv.length = 8
            · have HEX := Lib.hid (show parseS s.data.toList = (noSs, (i : Int) + 1, 3) by rw [HNX.out, HE5.out, if_pos rfl, if_pos h8p])
              have hdb : ((pv.length : Int) == 8) = true := by simp; omega
              clear hh HE5 h8p hp8
              go_wp2_with (go_at_call 21; refine (valueP2 (bsA v) HS.out hvz).mono ?_; rw [← HVB.out]; clear HS hcQ hfQ hlQ hcR hfR hlR hcH hfH hlH; rintro e w3 ⟨rfl, hs2⟩; obtain ⟨hcQ, hfQ, hlQ⟩ := Blk.all (hs2.at 2 rfl); obtain ⟨hcR, hfR, hlR⟩ := Blk.all (hs2.at 3 rfl); obtain ⟨hcH, hfH, hlH⟩ := Blk.all (hs2.at 4 rfl); have HS := Lib.hid hs2; clear hs2)
              (try rw [Exit.noGoto_ret]); have hs5 := (((((half_err HS.out).set 0 (.string ⟨#[]⟩)).set 1 (.string ⟨#[]⟩)).set 2 (.string ⟨#[]⟩)).set 3 (.slice none 0 0)).set 4 (.slice none 0 0); refine bodyPost_ret (res10 _ _ ⟨#[]⟩ ⟨#[]⟩ ⟨#[]⟩ (.slice none 0 0) (.slice none 0 0) _ _ _ rfl rfl rfl (hs5.at 0 rfl)) rfl ?_; refine Ret.mk (.refl I) ((hs5.drop).nil (e := 49) (size := 2) |>.nil (e := 66) (size := 3)) ⟨rfl, ?_⟩; rw [HEX.out]; exact parErr 49 66 M _ _
            · have HE6 := Lib.hid (show stepS i cn x (109 :: 61 :: v) = .ok ({ x with parts := x.parts ++ [⟨bsA v, ⟨#[]⟩, []⟩] }, true) by rw [HE5.out, if_pos rfl, if_neg h8p])
              have hdb : ((pv.length : Int) == 8) = false := by simp; omega
              have hp7 : pv.length ≤ 7 := by omega
              clear HE5 h8p
              go_upto_region 30 with (go_at_call 21; refine (valueP2 (bsA v) HS.out hvz).mono ?_; rw [← HVB.out]; clear HS hcQ hfQ hlQ hcR hfR hlR hcH hfH hlH; rintro e w3 ⟨rfl, hs2⟩; obtain ⟨hcQ, hfQ, hlQ⟩ := Blk.all (hs2.at 2 rfl); obtain ⟨hcR, hfR, hlR⟩ := Blk.all (hs2.at 3 rfl); obtain ⟨hcH, hfH, hlH⟩ := Blk.all (hs2.at 4 rfl); have HS := Lib.hid hs2; clear hs2)
              obtain ⟨i3, hi5, hz0, hz1, hz2'⟩ := info_parts info66
              have hs0 := HS.out.litSrcV (P := Try.prog) (t := 31) (e := 66) (cs := #[.string (bsA v), .string ⟨#[]⟩, .slice none 0 0]) (n := 1) (size := 3) rfl (by decide) Try.underlying31 (by simp [Value.oneCell'])
              have Hs := Lib.hid hs0
              have HG := Lib.hid (HS.out.grow (.cells #[.string (bsA v), .string ⟨#[]⟩, .slice none 0 0] 66))
              clear hs0
              go_wp2_with (at_builtin; refine wpList_append_src _ rfl _ _ 31 31 rfl 0 66 i3 (.agg #[.string ⟨#[]⟩, .string ⟨#[]⟩, .slice none 0 0]) 3 56 Try.underlying31 hi5 hz0 hz1 hz2' rfl _ pv.length (flat paC pv) rfl HG.out.head _ 1 _ rfl Hs.out (by unfold maxLen; omega) (by omega) (Nat.zero_le _) ?_)
              intro v' w' hown hgrow hat
              have hown2 : w'.ownsRow 0 66 3 v' (pv.length + 1) (flat paC (pv ++ [((⟨bsA v, ⟨#[]⟩, []⟩ : Pa), .slice none 0 0)])) := by simpa [flat_append, flat] using hown
              have hs2 := HG.out.grown hgrow hown2 (by simpa using hat)
              obtain ⟨B', c', rfl⟩ := own_form hown2
              obtain ⟨gB, rfl, hgB, hcB⟩ := own_form2 hown2 (by rw [flat_len (f := paC) (s := 3) (fun _ => rfl)]; simp)
              clear hown hown2 hgrow hat HG Hs
              clear HS hcQ hfQ hlQ hcR hfR hlR hcH hfH hlH
              obtain ⟨hcQ, hfQ, hlQ⟩ := Blk.all (hs2.at 2 rfl); obtain ⟨hcR, hfR, hlR⟩ := Blk.all (hs2.at 3 rfl); obtain ⟨hcH, hfH, hlH⟩ := Blk.all (hs2.at 4 rfl); have HS := Lib.hid hs2; clear hs2
              go_wp2
              go_roundw
              case rel =>
                have hf := hh.out
                have hs4 := HS.out.set2 4 (.slice (some ⟨gB, 0, none⟩) (pv.length + 1) c')
                refine ⟨bsA r2, i + 1, { x with parts := x.parts ++ [⟨bsA v, ⟨#[]⟩, []⟩] }, true, i + 1, vA, .slice (some ⟨gB, 0, none⟩) (pv.length + 1) c', pv ++ [((⟨bsA v, ⟨#[]⟩, []⟩ : Pa), .slice none 0 0)], by omega, by omega, rfl, by first | rfl | go_num, by first | rfl | go_num, rfl, Lib.hid ⟨HNX.out.trans (by rw [HE6.out]), ⟨?_, by simp; omega, hf.small.own, fun y hy => ?_⟩, .inr ⟨gB, _, c', by simp, rfl, by simp⟩, by simp, fun _ => by simp, .inr (by omega), ?_⟩⟩
                · show partsOf _ = x.parts ++ _
                  rw [← hf.small.parts]
                  unfold partsOf
                  simp
                · rcases List.mem_append.1 hy with h | h
                  · exact hf.small.each y h
                  · obtain rfl := List.mem_singleton.1 h
                    exact Nat.zero_le _
                · have e1 : (pv ++ [((⟨bsA v, ⟨#[]⟩, []⟩ : Pa), (.slice none 0 0 : Value))]).length = pv.length + 1 := by simp
                  have h5 := (arow_last (TA := 49) (N := [row 66 3 (.slice (some ⟨gB, 0, none⟩) (pv.length + 1) c') (pv.length + 1) (flat paC (pv ++ [((⟨bsA v, ⟨#[]⟩, []⟩ : Pa), .slice none 0 0)])), row 49 2 vA x.attrs.length (flat atC x.attrs), bk q 33 (head5 x vA (.slice (some ⟨gB, 0, none⟩) (pv.length + 1) c')), bk r 33 zero5, bk h 60 #[.pointer (some ⟨q, 0, none⟩), .pointer (some ⟨q, 1, none⟩), .pointer (some ⟨q, 2, none⟩)]]) pv ((⟨bsA v, ⟨#[]⟩, []⟩ : Pa), .slice none 0 0)).2 (St.nil (e := 49) (size := 2) hs4)
                  unfold half
                  rw [e1]
                  exact h5
              case measure => show (bsA r2).size < s2.size; rw [hz2]; omega
        cases hc9 : (k == 99)
        rotate_left
        · as_aux_lemma =>
          obtain rfl : k = 99 := by simpa using hc9
          have HE5 := Lib.hid (show stepS i cn x (99 :: 61 :: v) = if cn = true ∧ vb = true then .ok (setConn x (bsA v), false) else .error 2 by
            rw [HE4.out, if_neg (by decide), if_neg (by rintro ⟨h, _⟩; cases h), HVB.out]
            simp)
          have hcn := hh.out.conn
          clear ha hm hc9 HE4
          by_cases hb0 : 0 < b
          rotate_left
          · have HEX := Lib.hid (show parseS s.data.toList = (noSs, (i : Int) + 1, 2) by rw [HNX.out, HE5.out, if_neg (by rw [hcn, decide_eq_false hb0]; simp)])
            have hb0' : decide ((0 : Int) < b) = false := decide_eq_false (by omega)
            clear hh HE5 hcn
            go_wp2
            (try rw [Exit.noGoto_ret]); have hs5 := (((((half_err HS.out).set 0 (.string ⟨#[]⟩)).set 1 (.string ⟨#[]⟩)).set 2 (.string ⟨#[]⟩)).set 3 (.slice none 0 0)).set 4 (.slice none 0 0); refine bodyPost_ret (res10 _ _ ⟨#[]⟩ ⟨#[]⟩ ⟨#[]⟩ (.slice none 0 0) (.slice none 0 0) _ _ _ rfl rfl rfl (hs5.at 0 rfl)) rfl ?_; refine Ret.mk (.refl I) ((hs5.drop).nil (e := 49) (size := 2) |>.nil (e := 66) (size := 3)) ⟨rfl, ?_⟩; rw [HEX.out]; exact parErr 49 66 M _ _
          have hb0' : decide ((0 : Int) < b) = true := decide_eq_true (by omega)
          by_cases hbi2 : b = i
          rotate_left
          · have HEX := Lib.hid (show parseS s.data.toList = (noSs, (i : Int) + 1, 2) by rw [HNX.out, HE5.out, if_neg (by rw [hcn, decide_eq_false hbi2]; simp)])
            have hbe : ((b : Int) == (i : Int) + 1 - 1) = false := by simp; omega
            have hbe2 : ((b : Int) == (i : Int)) = false := by simp; omega
            clear hh HE5 hcn
            go_wp2
            (try rw [Exit.noGoto_ret]); have hs5 := (((((half_err HS.out).set 0 (.string ⟨#[]⟩)).set 1 (.string ⟨#[]⟩)).set 2 (.string ⟨#[]⟩)).set 3 (.slice none 0 0)).set 4 (.slice none 0 0); refine bodyPost_ret (res10 _ _ ⟨#[]⟩ ⟨#[]⟩ ⟨#[]⟩ (.slice none 0 0) (.slice none 0 0) _ _ _ rfl rfl rfl (hs5.at 0 rfl)) rfl ?_; refine Ret.mk (.refl I) ((hs5.drop).nil (e := 49) (size := 2) |>.nil (e := 66) (size := 3)) ⟨rfl, ?_⟩; rw [HEX.out]; exact parErr 49 66 M _ _
          obtain rfl : cn = true := by rw [hcn, decide_eq_true hb0, decide_eq_true hbi2]; rfl
          subst hbi2
          have hbe : ((b : Int) == (b : Int) + 1 - 1) = true := by simp
          cases vb
          · have HEX := Lib.hid (show parseS s.data.toList = (noSs, (b : Int) + 1, 2) by rw [HNX.out, HE5.out, if_neg (by simp)])
            clear hh HE5 hcn
            go_wp2_with (go_at_call 21; refine (valueP2 (bsA v) HS.out hvz).mono ?_; rw [← HVB.out]; clear HS hcQ hfQ hlQ hcR hfR hlR hcH hfH hlH; rintro e w3 ⟨rfl, hs2⟩; obtain ⟨hcQ, hfQ, hlQ⟩ := Blk.all (hs2.at 2 rfl); obtain ⟨hcR, hfR, hlR⟩ := Blk.all (hs2.at 3 rfl); obtain ⟨hcH, hfH, hlH⟩ := Blk.all (hs2.at 4 rfl); have HS := Lib.hid hs2; clear hs2)
            (try rw [Exit.noGoto_ret]); have hs5 := (((((half_err HS.out).set 0 (.string ⟨#[]⟩)).set 1 (.string ⟨#[]⟩)).set 2 (.string ⟨#[]⟩)).set 3 (.slice none 0 0)).set 4 (.slice none 0 0); refine bodyPost_ret (res10 _ _ ⟨#[]⟩ ⟨#[]⟩ ⟨#[]⟩ (.slice none 0 0) (.slice none 0 0) _ _ _ rfl rfl rfl (hs5.at 0 rfl)) rfl ?_; refine Ret.mk (.refl I) ((hs5.drop).nil (e := 49) (size := 2) |>.nil (e := 66) (size := 3)) ⟨rfl, ?_⟩; rw [HEX.out]; exact parErr 49 66 M _ _
          · have hpv := hh.out.begun rfl
            obtain ⟨ini, z, hpe⟩ : ∃ ini z, pv = ini ++ [z] := ⟨pv.dropLast, pv.getLast hpv, (List.dropLast_concat_getLast hpv).symm⟩
            subst hpe
            have hfl : 0 < (flat paC (ini ++ [z])).length := by rw [flat_len (f := paC) (s := 3) (fun _ => rfl)]; simp
            obtain ⟨aP, cP, rfl⟩ := own_form (show World.ownsRow _ 0 66 3 vP _ _ from HS.out.at 0 rfl)
            obtain ⟨gP, rfl, hgP, hcP⟩ := own_form2 (HS.out.at 0 rfl) hfl
            have hlen : (ini ++ [z]).length = ini.length + 1 := by simp
            have hin7 : ini.length ≤ 7 := by have := hh.out.small.few; rw [hlen] at this; omega
            clear hcn hgP
            go_upto_region 33 with (go_at_call 21; refine (valueP2 (bsA v) HS.out hvz).mono ?_; rw [← HVB.out]; clear HS hcQ hfQ hlQ hcR hfR hlR hcH hfH hlH; rintro e w3 ⟨rfl, hs2⟩; obtain ⟨hcQ, hfQ, hlQ⟩ := Blk.all (hs2.at 2 rfl); obtain ⟨hcR, hfR, hlR⟩ := Blk.all (hs2.at 3 rfl); obtain ⟨hcH, hfH, hlH⟩ := Blk.all (hs2.at 4 rfl); have HS := Lib.hid hs2; clear hs2)
            have hgP : gP < w3.heap.size := by
              obtain ⟨g', e, h1, _⟩ := own_form2 (HS.out.at 0 rfl) hfl
              injection e with e
              injection e with e
              rw [e]
              exact h1
            have hcel := own_at (f := paC) (fun _ => rfl) (HS.out.at 0 rfl) ini.length (by simp) 1 (by decide)
            have hfro := own_frozen (HS.out.at 0 rfl) hfl (ini.length * 3 + 1)
            simp only [List.getElem_append_right (Nat.le_refl _), Nat.sub_self, List.getElem_cons_zero, paC, List.getElem?_cons_succ, List.getElem?_cons_zero] at hcel
            have hset := St.rowCellSet HS.out (ini.length * 3 + 1) (.string (bsA v)) hfl
            rw [flat_last (f := paC) (s := 3) (fun _ => rfl) ini z ({ z.1 with conn := bsA v }, z.2) 1 (.string (bsA v)) (by decide) rfl] at hset
            have HSET := Lib.hid hset
            clear hset hfl hpv
            go_wp2
            go_roundw
            case rel =>
              have hf := hh.out
              have hsc := setConn_of hf.small.parts (bsA v)
              have HE6 := HE5.out.trans (if_pos (by simp))
              rw [hsc] at HE6
              refine ⟨bsA r2, b + 1, { x with parts := partsOf (ini ++ [({ z.1 with conn := bsA v }, z.2)]) }, false, b, vA, .slice (some ⟨gP, 0, none⟩) (ini ++ [z]).length cP, ini ++ [({ z.1 with conn := bsA v }, z.2)], by omega, by omega, rfl, by first | rfl | go_num, rfl, rfl, Lib.hid ⟨HNX.out.trans (by rw [HE6]), ⟨rfl, by simpa using hf.small.few, hf.small.own, fun y hy => ?_⟩, ?_, by rw [decide_eq_false (by omega : ¬ b = b + 1), Bool.and_false], fun h => (by cases h), hf.low, ?_⟩⟩
              · rcases List.mem_append.1 hy with h | h
                · exact hf.small.each y (List.mem_append.2 (.inl h))
                · obtain rfl := List.mem_singleton.1 h
                  exact hf.small.each z (by simp)
              · rcases hf.place with ⟨h, _⟩ | ⟨g', n, c', _, h1, h2⟩
                · simp at h
                · exact .inr ⟨g', n, c', by simp, h1, by rw [h2]; simp⟩
              · have e1 : (ini ++ [({ z.1 with conn := bsA v }, z.2)] : List (Pa × Value)).length = (ini ++ [z]).length := by simp
                have e2 : (ini ++ [({ z.1 with conn := bsA v }, z.2)] : List (Pa × Value)).map (arow 49) = (ini ++ [z]).map (arow 49) := by rw [List.map_append, List.map_append]; rfl
                unfold half
                rw [e1, e2]
                exact HSET.out
            case measure => show (bsA r2).size < s2.size; rw [hz2]; omega
        as_aux_lemma =>
        have hpa : ¬ k = 97 := by simpa using ha
        have hpm : ¬ k = 109 := by simpa using hm
        have hpc : ¬ k = 99 := by simpa using hc9
        have HEX := Lib.hid (show parseS s.data.toList = (noSs, (i : Int) + 1, 2) by
          rw [HNX.out, HE4.out, if_neg hpa, if_neg (by rintro ⟨h, _⟩; exact hpm h), if_neg (by rintro ⟨h, _⟩; exact hpc h)])
        clear hh HE4
        go_wp2
        (try rw [Exit.noGoto_ret]); have hs5 := (((((half_err HS.out).set 0 (.string ⟨#[]⟩)).set 1 (.string ⟨#[]⟩)).set 2 (.string ⟨#[]⟩)).set 3 (.slice none 0 0)).set 4 (.slice none 0 0); refine bodyPost_ret (res10 _ _ ⟨#[]⟩ ⟨#[]⟩ ⟨#[]⟩ (.slice none 0 0) (.slice none 0 0) _ _ _ rfl rfl rfl (hs5.at 0 rfl)) rfl ?_; refine Ret.mk (.refl I) ((hs5.drop).nil (e := 49) (size := 2) |>.nil (e := 66) (size := 3)) ⟨rfl, ?_⟩; rw [HEX.out]; exact parErr 49 66 M _ _
end Go.Proofs.Ytpbbincgddmbiaa
