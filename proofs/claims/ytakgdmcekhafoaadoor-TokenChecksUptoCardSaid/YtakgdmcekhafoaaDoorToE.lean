/- sha1.MAC. -/
import Derived.Test.YtakgdmcekhafoaaDoorToD
import Derived.Test.YtakgdmcekhafoaaDoorToEp
namespace Go.Proofs.YtakgdmcekhafoaaDoor
open Go.RowKit
set_option linter.unusedSimpArgs false

set_option maxRecDepth 8000 in
set_option maxHeartbeats 4000000 in
theorem macP (I : Img) (M : List Res) (w : World) (KA MA : Option Addr) (kc mc : Nat) (kb mb : List UInt8) (hst : St I M w) (hk : Byts I KA kb) (hm : Byts I MA mb) (hkl : kb.length ≤ 140737488351232) (hml : mb.length ≤ 140737488355000) :
    Calls Tryd.prog 34 #[.slice KA kb.length kc, .slice MA mb.length mc] w (Ret I (fun v _ M' => v = .agg (bvs (macS kb mb)).toArray ∧ M' = M)) := by
  have hs := hst.alloc 61 zero20
  obtain ⟨r, hr⟩ : ∃ r, r = w.heap.size := ⟨_, rfl⟩
  rw [← hr] at hs
  have HK := Lib.hid hk
  have HM := Lib.hid hm
  clear hst hk hm
  go_enter Tryd.func34, Tryd.ntmps34
  go_upto_if 13 with fail
  rw [← hr]
  clear hr
  generalize World.alloc _ _ = W0 at hs ⊢
  have HS := Lib.hid hs
  clear hs
  go_cut [0] (fun kv wx => ∃ (J : Img) (A : Option Addr) (c : Nat), kv = .slice A (shortKey kb).length c ∧ Hid (I.le J ∧ St J (bk r 61 zero20 :: M) wx ∧ Byts J A (shortKey kb)))
  case first =>
    by_cases h64 : 64 < kb.length
    rotate_left
    · have HSK := Lib.hid (show shortKey kb = kb from if_neg h64)
      have h64' : (kb.length : Int) ≤ 64 := by omega
      clear h64
      go_wp2
      go_meet
      exact ⟨I, KA, kc, by rw [HSK.out], Lib.hid ⟨.refl I, HS.out, by rw [HSK.out]; exact HK.out⟩⟩
    · have hi64 : (64 : Int) < kb.length := by omega
      have HSK := Lib.hid (show shortKey kb = outS (shaS kb) from if_pos h64)
      clear h64
      have HA := Lib.hid (HS.out.allocF 22 #[.slice KA kb.length kc])
      clear HS
      obtain ⟨J, hl, hs1, ho⟩ := HA.out
      have HC := Lib.hid (sumP J (bk r 61 zero20 :: M) _ W0.heap.size 0 1 [(.slice KA kb.length kc, kb)] hs1 (fun p hp => by obtain rfl := List.mem_singleton.1 hp; exact PartIn.byts (HK.out.mono hl) kc)
        (fun L w' hs i hi => by
          obtain rfl : i = 0 := by simpa using hi
          exact hs.cell (by simp [Img.cell?, ho])) (by simp) (by simp) (by simp; omega))
      have HL := Lib.hid hl
      clear hs1 ho HA hl
      go_wp2_with fail
      go_at_call 50
      refine HC.out.mono ?_
      rintro e w2 ⟨_, _, _, rfl, _, hs2, rfl, rfl, rfl⟩
      clear HC
      have hs3 := hs2.alloc 61 zero20
      have hfl : ([((Value.slice KA kb.length kc), kb)].map (·.2)).flatten = kb := by simp
      rw [hfl]
      obtain ⟨O, hO⟩ : ∃ O, O = (bvs (outS (shaS kb))).toArray := ⟨_, rfl⟩
      have hi61 : (Tryd.prog.info? 61).map (·.size) = some O.size := by rw [info61, hO]; rfl
      have ho1 : O.all (·.oneCell') = true := by rw [hO, List.all_toArray]; exact List.all_eq_true.2 (bvs_one _)
      have hos : zero20.size = O.size := by rw [hO]; rfl
      rw [← hO]
      have HO := Lib.hid hO
      have hbx : (w2.alloc (.cells zero20 61)).heap[w2.heap.size]? = some (.cells zero20 61 (0, 0)) := hs3.head
      have HS4 := Lib.hid (hs3.setR O).freezeBlk
      clear hs2 hs3 hO hfl
      go_wp2_with (refine wpList_store_row rfl 61 (.tmp 5) (.tmp 16) rfl w2.heap.size O rfl rfl 61 _ hbx hi61 hos ho1 ?_)
      go_meet
      obtain ⟨J4, hl4, hs5, ho5⟩ := HS4.out
      exact ⟨J4, some ⟨w2.heap.size, 0, none⟩, 20, by rw [HSK.out]; rfl, Lib.hid ⟨HL.out.trans hl4, hs5, by rw [HSK.out]; exact Byts.ofBlk ho5 (by rw [HO.out])⟩⟩
  case rest =>
  obtain ⟨J, A, c, rfl, HE⟩ := hcut
  clear HS
  have HMS := Lib.hid (show macS kb mb = outS (shaS ((pk64 (shortKey kb)).map (· ^^^ 92) ++ outS (shaS ((pk64 (shortKey kb)).map (· ^^^ 54) ++ mb)))) from rfl)
  have hskl := shortKey_len kb
  generalize shortKey kb = sk at HE HMS hskl ⊢
  have HI := Lib.hid HE.out.1
  have HA := Lib.hid HE.out.2.2
  have hs := HE.out.2.1.alloc 78 (bvs (padsAt sk 0)).toArray
  obtain ⟨p, hp⟩ : ∃ p, p = wc.heap.size := ⟨_, rfl⟩
  rw [← hp] at hs
  clear HE HK
  go_upto_block 0 with fail
  rw [← hp, zero78, ← pads0 sk]
  clear hp
  generalize World.alloc _ _ = W1 at hs ⊢
  have HS := Lib.hid hs
  clear hs
  go_cut [] (fun wx => Hid (St J (bk p 78 (bvs (padsAt sk 2)).toArray :: bk r 61 zero20 :: M) wx))
  case first =>
    go_wp2_with fail
    go_loopw [19] (fun iv wr => ∃ i : Nat, i ≤ 2 ∧ iv = .int .i64 i ∧ Hid (St J (bk p 78 (bvs (padsAt sk i)).toArray :: bk r 61 zero20 :: M) wr)) (fun iv _ => 2 - (intOf iv).toNat)
    case atStart => exact ⟨0, by omega, rfl, HS⟩
    case round =>
      obtain ⟨i, hi, rfl, HSr⟩ := hrel
      clear HS
      by_cases hlt : i < 2
      rotate_left
      · obtain rfl : i = 2 := by omega
        clear hlt
        go_wp2
        go_meet
        exact HSr
      have hix : ∀ w, (Instr.index 79 (.agg #[.int .u8 54, .int .u8 92]) (.int .i64 i)).run Tryd.prog w = .ok (.int .u8 (xorB i).toNat) w := index79 hlt
      have hil : (i : Int) < 2 := by omega
      have HMM := Lib.hid (show splice (bvs (padsAt sk i)) (i * 64) (bvs sk) = bvs (midP sk i 0) from by rw [Nat.mul_comm]; exact mid_splice hskl hlt)
      have HM1 := Lib.hid (show (bvs sk).length = Nat.min sk.length 64 from by rw [bvs_len]; exact (Nat.min_eq_left hskl).symm)
      have HM2 := Lib.hid (show i * 64 + (bvs sk).length ≤ (bvs (padsAt sk i)).length from by rw [bvs_len, bvs_len, pads_len hskl hi]; omega)
      go_upto_block 2 with (refine wpList_copy_St (M := bk r 61 zero20 :: M) rfl (.tmp 25) (.tmp 26) 22 22 rfl 5 Tryd.underlying22 size5 (some ⟨p, i * 64, none⟩) A 64 64 sk.length c rfl rfl p (i * 64) (bvs (padsAt sk i)) 78 HSr.out (bvs sk) HM1.out (fun h => ⟨rfl, HA.out.reads HSr.out h⟩) HM2.out (bvs_one sk) ?_; intro w' hs')
      rw [HMM.out] at hs'
      have HS0 := Lib.hid hs'
      clear hs' HSr
      go_wp2_with fail
      go_loopw [28] (fun jv wr => ∃ j : Nat, j ≤ 64 ∧ jv = .int .i64 j ∧ Hid (St J (bk p 78 (bvs (midP sk i j)).toArray :: bk r 61 zero20 :: M) wr)) (fun jv _ => 64 - (intOf jv).toNat)
      case atStart => exact ⟨0, by omega, rfl, HS0⟩
      case round =>
        obtain ⟨j, hj, rfl, HSr⟩ := hrel
        clear HS0
        by_cases hlj : j < 64
        rotate_left
        · obtain rfl : j = 64 := by omega
          clear hlj
          have HS1 := Lib.hid (show St J (bk p 78 (bvs (padsAt sk (i + 1))).toArray :: bk r 61 zero20 :: M) _ from by rw [← mid_end hskl hlt]; exact HSr.out)
          clear HSr
          go_wp2
          go_roundw
          case rel => exact ⟨i + 1, by omega, by go_num, HS1⟩
          case measure => simp [intOf]; omega
        have hjl : (j : Int) < 64 := by omega
        have hs := HSr.out.drew
        have HC := Lib.hid (show (bvs (midP sk i j)).toArray[i * 64 + j]? = some (.int .u8 ((pk64 sk).getD j 0).toNat) from by
          have := mid_get hskl hlt hlj
          rw [Nat.mul_comm 64 i] at this
          simp [bvs, bv, this])
        have HT := Lib.hid (show (bvs (midP sk i j)).toArray.setIfInBounds (i * 64 + j) (bv ((pk64 sk).getD j 0 ^^^ xorB i)) = (bvs (midP sk i (j + 1))).toArray from by
          rw [← mid_set hskl hlt hlj, Nat.mul_comm 64 i]
          simp [bvs, List.map_set])
        have hx := u8_xor ((pk64 sk).getD j 0) (xorB i)
        generalize (pk64 sk).getD j 0 ^^^ xorB i = Y at HT hx
        generalize (pk64 sk).getD j 0 = Z at HC hx
        clear HSr
        go_upto_region 12 with fail
        have hc1 : wr.drew.cell? ⟨p, i * 64 + j, none⟩ = some (.int .u8 Z.toNat) := (Blk.cell (show Blk _ p 78 _ from hs.head) _).trans HC.out
        have hf1 := Blk.frozen (show Blk wr.drew p 78 _ from hs.head) (i * 64 + j)
        have HS9 := Lib.hid (show St J (bk p 78 (bvs (midP sk i (j + 1))).toArray :: bk r 61 zero20 :: M) _ from by have h := hs.set (i * 64 + j) (bv Y); rw [HT.out] at h; exact h)
        clear hs
        go_region
        clear hc1 hf1
        go_wp2
        go_roundw
        case rel => exact ⟨j + 1, by omega, by go_num, HS9⟩
        case measure => simp [intOf]; omega
  case rest =>
  have HS2 := hcut
  clear hcut HS HA
  obtain ⟨J2, hl2, hs2, ho2⟩ := HS2.out.freezeBlk
  have hin : Byts J2 (some ⟨p, 0, none⟩) ((pk64 sk).map (· ^^^ 54)) := Byts.ofBlkAt ho2 (by
    have e : padsAt sk 2 = (pk64 sk).map (· ^^^ 54) ++ (pk64 sk).map (· ^^^ 92) := by simp [padsAt, preP]
    rw [e, bvs_append]
    simp [bvs, pk64_len hskl])
  have hout : Byts J2 (some ⟨p, 64, none⟩) ((pk64 sk).map (· ^^^ 92)) := Byts.ofBlkAt ho2 (by
    have e : padsAt sk 2 = (pk64 sk).map (· ^^^ 54) ++ (pk64 sk).map (· ^^^ 92) := by simp [padsAt, preP]
    rw [e, bvs_append, List.drop_left' (by rw [bvs_len, List.length_map, pk64_len hskl])]
    exact List.take_of_length_le (by rw [bvs_len]; exact Nat.le_refl _))
  have hl54 : ((pk64 sk).map (· ^^^ 54)).length = 64 := by rw [List.length_map, pk64_len hskl]
  have hl92 : ((pk64 sk).map (· ^^^ 92)).length = 64 := by rw [List.length_map, pk64_len hskl]
  generalize (pk64 sk).map (· ^^^ 54) = P1 at hin hl54 HMS
  generalize (pk64 sk).map (· ^^^ 92) = P2 at hout hl92 HMS
  have HL2 := Lib.hid ((HI.out).trans hl2)
  have HM2 := Lib.hid (HM.out.mono ((HI.out).trans hl2))
  have HOUT := Lib.hid hout
  clear HM HI HS2 hout
  obtain ⟨J3, hl3, hs3, ho3⟩ := hs2.allocF 22 #[.slice (some ⟨p, 0, none⟩) 64 64, .slice MA mb.length mc]
  have HC := Lib.hid (sumP J3 (bk r 61 zero20 :: M) _ wc.heap.size 0 2 [(.slice (some ⟨p, 0, none⟩) 64 64, P1), (.slice MA mb.length mc, mb)] hs3 (fun q hq => by
      rcases List.mem_cons.1 hq with rfl | hq
      · have := PartIn.byts (M := bk r 61 zero20 :: M) (hin.mono hl3) 64
        rwa [hl54] at this
      · obtain rfl := List.mem_singleton.1 hq
        exact PartIn.byts (HM2.out.mono hl3) mc)
    (fun L w' hs i hi => by
      have hi2 : i = 0 ∨ i = 1 := by simp at hi; omega
      rcases hi2 with rfl | rfl <;> exact hs.cell (by simp [Img.cell?, ho3])) (by simp) (by simp) (by simp [hl54]; omega))
  have HL3 := Lib.hid (HL2.out.trans hl3)
  have HO3 := Lib.hid (HOUT.out.mono hl3)
  have hfl : ([((Value.slice (some ⟨p, 0, none⟩) 64 64), P1), (.slice MA mb.length mc, mb)].map (·.2)).flatten = P1 ++ mb := by simp
  rw [hfl] at HC
  clear hs2 hs3 ho3 hin HL2 HM2 HOUT hl3 hfl ho2 hl2
  have hi20 : (Tryd.prog.info? 61).map (·.size) = some 20 := info61
  go_wp2_with fail
  go_at_call 50
  refine HC.out.mono ?_
  rintro e w2 ⟨_, _, _, rfl, _, hs2, rfl, rfl, rfl⟩
  clear HC
  obtain ⟨T, hT⟩ : ∃ T, T = shaS (P1 ++ mb) := ⟨_, rfl⟩
  rw [← hT]
  rw [← hT] at HMS
  have hs3 := hs2.alloc 61 zero20
  obtain ⟨O, hO⟩ : ∃ O, O = (bvs (outS T)).toArray := ⟨_, rfl⟩
  have hi61 : (Tryd.prog.info? 61).map (·.size) = some O.size := by rw [info61, hO]; rfl
  have ho1 : O.all (·.oneCell') = true := by rw [hO, List.all_toArray]; exact List.all_eq_true.2 (bvs_one _)
  have hos : zero20.size = O.size := by rw [hO]; rfl
  rw [← hO]
  have HO := Lib.hid hO
  have hbx : (w2.alloc (.cells zero20 61)).heap[w2.heap.size]? = some (.cells zero20 61 (0, 0)) := hs3.head
  have HS4 := Lib.hid (hs3.setR O).freezeBlk
  clear hs2 hs3 hO hT
  go_upto_region 16 with (refine wpList_store_row rfl 61 (.tmp 10) (.tmp 46) rfl w2.heap.size O rfl rfl 61 _ hbx hi61 hos ho1 ?_)
  obtain ⟨J4, hl4, hs5, ho5⟩ := HS4.out
  generalize World.setRow _ _ _ = W3 at hs5 ⊢
  obtain ⟨q, hq⟩ : ∃ q, q = w2.heap.size := ⟨_, rfl⟩
  rw [← hq] at ho5 ⊢
  clear HS4 hbx hq
  have hmid : Byts J4 (some ⟨q, 0, none⟩) (outS T) := Byts.ofBlk ho5 (by rw [HO.out])
  obtain ⟨J5, hl5, hs6, ho6⟩ := hs5.drew.allocF 22 #[.slice (some ⟨p, 64, none⟩) 64 64, .slice (some ⟨q, 0, none⟩) 20 20]
  replace ho6 : J5.obj W3.heap.size = _ := ho6
  have HC := Lib.hid (sumP J5 (bk r 61 zero20 :: M) _ W3.heap.size 0 2 [(.slice (some ⟨p, 64, none⟩) 64 64, P2), (.slice (some ⟨q, 0, none⟩) 20 20, outS T)] hs6 (fun q hq => by
      rcases List.mem_cons.1 hq with rfl | hq
      · have := PartIn.byts (M := bk r 61 zero20 :: M) (HO3.out.mono (hl4.trans hl5)) 64
        rwa [hl92] at this
      · obtain rfl := List.mem_singleton.1 hq
        exact PartIn.byts (hmid.mono hl5) 20)
    (fun L w' hs i hi => by
      have hi2 : i = 0 ∨ i = 1 := by simp at hi; omega
      rcases hi2 with rfl | rfl <;> exact hs.cell (by simp [Img.cell?, ho6])) (by simp) (by simp) (by simp [hl92, outS_len]))
  have hfl : ([((Value.slice (some ⟨p, 64, none⟩) 64 64), P2), (.slice (some ⟨q, 0, none⟩) 20 20, outS T)].map (·.2)).flatten = P2 ++ outS T := by simp
  rw [hfl] at HC
  obtain ⟨O2, hO2⟩ : ∃ O2, O2 = (bvs (outS (shaS (P2 ++ outS T)))).toArray := ⟨_, rfl⟩
  rw [← hO2] at HC
  have hi62 : (Tryd.prog.info? 61).map (·.size) = some O2.size := by rw [info61, hO2]; rfl
  have ho2 : O2.all (·.oneCell') = true := by rw [hO2, List.all_toArray]; exact List.all_eq_true.2 (bvs_one _)
  have hos2 : zero20.size = O2.size := by rw [hO2]; rfl
  have HO2 := Lib.hid hO2
  have HL5 := Lib.hid (HL3.out.trans (hl4.trans hl5))
  clear hs5 hs6 ho5 ho6 hmid hfl hl4 hl5 HO3 hO2
  refine wp_region_held_drew (S := (fun _ => True)) (by kernel_rfl) (by (try dsimp only); first | done | trivial) (fun hHeld => ?_)
  refine wpAnyH_take (i := 0) (oi := _) (v := ?_) rfl (by kernel_rfl) (by kernel_rfl) (by kernel_rfl) (fun _ _ _ h => h) (Or.inl ⟨by rfl, ?_⟩) (by assumption) ?_
  rotate_left
  · (intro w hSw; (try dsimp only at hSw); go_simp; try with_reducible rfl)
  try simp only [Act.put, List.getElem_toArray, List.getElem_cons_zero, List.getElem_cons_succ, List.setIfInBounds_toArray, List.set_cons_zero, List.set_cons_succ]
  refine wpAnyH_take (i := 1) (oi := _) (v := ?_) rfl (by kernel_rfl) (by kernel_rfl) (by kernel_rfl) (fun _ _ _ h => h) (Or.inl ⟨by rfl, ?_⟩) (by assumption) ?_
  rotate_left
  · (intro w hSw; (try dsimp only at hSw); go_simp; try with_reducible rfl)
  try simp only [Act.put, List.getElem_toArray, List.getElem_cons_zero, List.getElem_cons_succ, List.setIfInBounds_toArray, List.set_cons_zero, List.set_cons_succ]
  refine wpAnyH_take (i := 2) (oi := _) (v := ?_) rfl (by kernel_rfl) (by kernel_rfl) (by kernel_rfl) (fun _ _ _ h => h) (Or.inl ⟨by rfl, ?_⟩) (by assumption) ?_
  rotate_left
  · (intro w hSw; (try dsimp only at hSw); go_simp; try with_reducible rfl)
  try simp only [Act.put, List.getElem_toArray, List.getElem_cons_zero, List.getElem_cons_succ, List.setIfInBounds_toArray, List.set_cons_zero, List.set_cons_succ]
  refine wpAnyH_ready (rs := [3]) (by kernel_rfl) (by simp) ?_
  refine AllReadyH.cons (o := _) rfl (fun K hK => ?_) AllReadyH.nil
  go_simp
  try clear hHeld
  refine hK.out _ _ (by (try dsimp only); first | done | trivial) (fun hHeld => ?_)
  clear hK K
  try simp only [Act.put, List.getElem_toArray, List.getElem_cons_zero, List.getElem_cons_succ, List.setIfInBounds_toArray, List.set_cons_zero, List.set_cons_succ]
  refine wpAnyH_ready (rs := [4]) (by kernel_rfl) (by simp) ?_
  refine AllReadyH.cons (o := _) rfl (fun K hK => ?_) AllReadyH.nil
  go_simp
  refine HC.out.mono ?_; rintro e w5 ⟨_, _, _, rfl, _, hs2, rfl, rfl, rfl⟩; have hbr : w5.heap[r]? = some (.cells zero20 61 (0, 0)) := hs2.head; have HS8 := Lib.hid (hs2.setR O2); clear hs2
  try clear hHeld
  refine hK.out _ _ (by (try dsimp only); first | done | trivial) (fun hHeld => ?_)
  clear hK K
  try simp only [Act.put, List.getElem_toArray, List.getElem_cons_zero, List.getElem_cons_succ, List.setIfInBounds_toArray, List.set_cons_zero, List.set_cons_succ]
  refine wpAnyH_ready (rs := [5]) (by kernel_rfl) (by simp) ?_
  refine AllReadyH.cons (o := _) rfl (fun K hK => ?_) AllReadyH.nil
  refine step_store_row rfl 61 (.tmp 4) (.tmp 51) rfl r O2 rfl rfl 61 _ hbr hi62 hos2 ho2 ?_
  try clear hHeld
  refine hK.out _ _ (by (try dsimp only); first | done | trivial) (fun hHeld => ?_)
  clear hK K
  try simp only [Act.put, List.getElem_toArray, List.getElem_cons_zero, List.getElem_cons_succ, List.setIfInBounds_toArray, List.set_cons_zero, List.set_cons_succ]
  refine wpAnyH_done (by kernel_rfl) ?_ _
  go_wp2
  refine bodyPost_ret (results_cell_row (p := 4) (ty := 61) rfl _ _ r 61 O2 (0, 0) _ rfl HS8.out.head Tryd.underlying61 rfl hi62) rfl ?_
  exact Ret.mk HL5.out HS8.out.drop ⟨by rw [HMS.out, HO2.out], rfl⟩
end Go.Proofs.YtakgdmcekhafoaaDoor
