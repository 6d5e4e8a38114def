/- rostrumref02.MAC, rostrumref02.Hex. -/
import Derived.Test.YtakgdmcekhafoaaDoorToS
import Derived.Test.YtakgdmcekhafoaaDoorToF
namespace Go.Proofs.YtakgdmcekhafoaaDoor
open Go.RowKit
set_option linter.unusedSimpArgs false

theorem step_copy_St {P : Program} {I : Img} {M : List Res} {ops : Array Oper} {o : Oper} {a : Act} {w : World} {K : Act → World → Prop} {Q : Exit → Act → World → Prop} {E : Prop} (hgd : o.guard = none) (d s : Operand) (dT sT : TypeId)
    (ho : o.op = .call { callee := .builtin .copy, args := #[d, s], argTypes := #[dT, sT] }) (elem : TypeId) (hu : P.underlying dT = some (.slice elem)) (hsz : (P.info? elem).map (·.size) = some 1)
    (g off dLen dCap : Nat) (ad : Addr) (sLen sCap : Nat) (hd : a.eval d = .slice (some ⟨g, off, none⟩) dLen dCap) (hs : a.eval s = .slice (some ad) sLen sCap)
    (cur : List Value) (t : TypeId) (hst : St I (bk g t cur.toArray :: M) w) (cs : List Value) (hn : cs.length = Nat.min sLen dLen)
    (hsrc : ∀ j v, cs[j]? = some v → w.cell? (ad.add j) = some v)
    (hfit : off + cs.length ≤ cur.length) (h1 : ∀ v ∈ cs, v.oneCell' = true)
    (h : ∀ w', St I (bk g t (splice cur off cs).toArray :: M) w' → K (a.put o.dst (goInt cs.length)) w') :
    if Region.wanted o (yielded ops a.tmps) = true then Oper.wp P o a w K Q else E := by
  have hw : Region.wanted o (yielded ops a.tmps) = true := by simp [Region.wanted, hgd]
  rw [if_pos hw]
  have hrun := run_copy_row (P := P) w dT sT o.type elem g off dLen dCap ad sLen sCap cur.toArray t cs hu hsz hst.head hn hsrc (by simpa using hfit) h1
  unfold Oper.wp
  simp [execOp, ho, resolve, invoke, builtin, hd, hs, hrun, Result.andThen]
  exact h _ (by simpa [splice] using hst.setR (splice cur off cs).toArray)
theorem zero75 : (#[.int .u8 0, .int .u8 0, .int .u8 0, .int .u8 0, .int .u8 0, .int .u8 0, .int .u8 0, .int .u8 0, .int .u8 0, .int .u8 0, .int .u8 0, .int .u8 0, .int .u8 0, .int .u8 0, .int .u8 0, .int .u8 0, .int .u8 0, .int .u8 0, .int .u8 0, .int .u8 0, .int .u8 0, .int .u8 0, .int .u8 0, .int .u8 0, .int .u8 0, .int .u8 0, .int .u8 0, .int .u8 0, .int .u8 0, .int .u8 0, .int .u8 0, .int .u8 0, .int .u8 0, .int .u8 0, .int .u8 0, .int .u8 0, .int .u8 0, .int .u8 0, .int .u8 0, .int .u8 0, .int .u8 0, .int .u8 0, .int .u8 0, .int .u8 0, .int .u8 0, .int .u8 0, .int .u8 0, .int .u8 0, .int .u8 0, .int .u8 0, .int .u8 0, .int .u8 0, .int .u8 0, .int .u8 0, .int .u8 0, .int .u8 0, .int .u8 0, .int .u8 0, .int .u8 0, .int .u8 0, .int .u8 0, .int .u8 0, .int .u8 0, .int .u8 0] : Array Value) = (bvs (List.replicate 64 0)).toArray := by kernel_rfl
theorem pk_splice {sk : List UInt8} (_h : sk.length ≤ 64) : splice (bvs (List.replicate 64 0)) 0 (bvs sk) = bvs (pk64 sk) := by
  unfold splice pk64
  rw [bvs_append, bvs_len]
  unfold bvs
  rw [List.take_zero, List.nil_append, ← List.map_drop, List.drop_replicate, Nat.zero_add]
theorem takeMap {f : UInt8 → UInt8} {l : List UInt8} {i : Nat} (h : i < l.length) : (l.take (i + 1)).map f = (l.take i).map f ++ [f (l.getD i 0)] := by
  rw [List.take_succ_eq_append_getElem h, List.map_append]
  simp [h]
set_option maxRecDepth 8000 in
set_option maxHeartbeats 4000000 in
theorem macR (I : Img) (M : List Res) (w : World) (KA MA : Option Addr) (kc mc : Nat) (kb mb : List UInt8) (hst : St I M w) (hk : Byts I KA kb) (hm : Byts I MA mb) (hkl : kb.length ≤ 140737488351232) (hml : mb.length ≤ 140737488351200) :
    Calls Tryd.prog 29 #[.slice KA kb.length kc, .slice MA mb.length mc] w (Ret I (fun v _ M' => v = .agg (bvs (macS kb mb)).toArray ∧ M' = M)) := by
  obtain ⟨i0, hi, hz0, hz1, hz2⟩ : ∃ i, Tryd.prog.info? 5 = some i ∧ i.zero = some (.int .u8 0) ∧ i.size = 1 ∧ i.bytes = 1 := by
    obtain ⟨i, h1, h2⟩ := Option.map_eq_some_iff.1 (show (Tryd.prog.info? 5).map (fun i => (i.zero, i.size, i.bytes)) = some (some (.int .u8 0), 1, 1) by kernel_rfl)
    simp only [Prod.mk.injEq] at h2
    exact ⟨i, h1, h2.1, h2.2.1, h2.2.2⟩
  have hs := (hst.alloc 61 zero20).alloc 75 (bvs (List.replicate 64 0)).toArray
  rw [World.size_alloc] at hs
  obtain ⟨r, hr⟩ : ∃ r, r = w.heap.size := ⟨_, rfl⟩
  rw [← hr] at hs
  have HK := Lib.hid hk
  have HM := Lib.hid hm
  clear hst hk hm
  go_enter Tryd.func29, Tryd.ntmps29
  go_upto_if 13 with fail
  rw [← hr, zero75]
  clear hr
  generalize World.alloc _ _ = W0 at hs ⊢
  have HS := Lib.hid hs
  clear hs
  go_cut [] (fun wx => ∃ (J : Img), Hid (I.le J ∧ St J (bk (r + 1) 75 (bvs (pk64 (shortKey kb))).toArray :: bk r 61 zero20 :: M) wx))
  case first =>
    by_cases h64 : 64 < kb.length
    rotate_left
    · have HSK := Lib.hid (show shortKey kb = kb from if_neg h64)
      have h64' : (kb.length : Int) ≤ 64 := by omega
      have HM1 := Lib.hid (show (bvs kb).length = Nat.min kb.length 64 from by rw [bvs_len]; exact (Nat.min_eq_left (by omega)).symm)
      have HM2 := Lib.hid (show 0 + (bvs kb).length ≤ (bvs (List.replicate 64 0)).length from by rw [bvs_len, bvs_len, List.length_replicate]; omega)
      have HPS := Lib.hid (pk_splice (sk := kb) (by omega))
      clear h64
      go_wp2_with (refine wpList_copy_St (M := bk r 61 zero20 :: M) rfl (.tmp 19) (.tmp 20) 22 22 rfl 5 Tryd.underlying22 size5 (some ⟨r + 1, 0, none⟩) KA 64 64 kb.length kc rfl rfl (r + 1) 0 (bvs (List.replicate 64 0)) 75 HS.out (bvs kb) HM1.out (fun h => ⟨rfl, HK.out.reads HS.out h⟩) HM2.out (bvs_one kb) ?_; intro w' hs'; have HS2 := Lib.hid hs'; clear hs')
      go_meet
      exact ⟨I, Lib.hid ⟨.refl I, by have := HS2.out; rw [HPS.out] at this; rw [HSK.out]; exact this⟩⟩
    · have hi64 : (64 : Int) < kb.length := by omega
      have HSK := Lib.hid (show shortKey kb = outS (shaS kb) from if_pos h64)
      have HC := Lib.hid (sumR I _ W0 KA kc kb HS.out HK.out (by omega))
      clear h64
      go_wp2_with fail
      go_at_call 47
      refine HC.out.mono ?_
      rintro e w2 ⟨_, J, _, rfl, hl, hs2, rfl, rfl⟩
      clear HC
      have hs3 := hs2.alloc 61 zero20
      obtain ⟨T, hT⟩ : ∃ T, T = outS (shaS kb) := ⟨_, rfl⟩
      have hTl : T.length = 20 := by rw [hT]; rfl
      rw [← hT]
      rw [← hT] at HSK
      obtain ⟨O, hO⟩ : ∃ O, O = (bvs T).toArray := ⟨_, rfl⟩
      have hi61 : (Tryd.prog.info? 61).map (·.size) = some O.size := by rw [info61, hO]; simp [bvs, hTl]
      have ho1 : O.all (·.oneCell') = true := by rw [hO, List.all_toArray]; exact List.all_eq_true.2 (bvs_one _)
      have hos : zero20.size = O.size := by rw [hO]; simp [bvs, hTl]
      rw [← hO]
      have HO := Lib.hid hO
      have hbx : (w2.alloc (.cells zero20 61)).heap[w2.heap.size]? = some (.cells zero20 61 (0, 0)) := hs3.head
      have HS4 := Lib.hid (hs3.setR O).freezeBlk
      clear hs2 hs3 hO hT
      go_upto_region 4 with (refine wpList_store_row rfl 61 (.tmp 6) (.tmp 15) rfl w2.heap.size O rfl rfl 61 _ hbx hi61 hos ho1 ?_)
      obtain ⟨J4, hl4, hs5, ho5⟩ := HS4.out
      generalize World.setRow _ _ _ = W3 at hs5 ⊢
      obtain ⟨q, hq⟩ : ∃ q, q = w2.heap.size := ⟨_, rfl⟩
      rw [← hq] at ho5 ⊢
      clear HS4 hbx hq
      have hT4 : Byts J4 (some ⟨q, 0, none⟩) T := Byts.ofBlk ho5 (by rw [HO.out])
      replace hs5 := hs5.drew
      obtain ⟨ad, had, hrd⟩ := hT4.reads hs5 (by rw [bvs_len]; omega)
      injection had with had
      subst had
      have HPS := Lib.hid (pk_splice (sk := T) (by omega))
      have HL := Lib.hid (hl.trans hl4)
      have HTL := Lib.hid hTl
      clear ho5 hT4 hl hl4 hTl
      refine wp_region_held_drew (S := (fun _ => True)) (by kernel_rfl) (by (try dsimp only); first | done | trivial) (fun hHeld => ?_)
      generalize World.drew _ = W at hs5 hrd hHeld ⊢
      refine wpAnyH_take (i := 0) (oi := _) (v := ?_) rfl (by kernel_rfl) (by kernel_rfl) (by kernel_rfl) (fun _ _ _ h => h) (Or.inl ⟨by rfl, ?_⟩) (by assumption) ?_
      rotate_left
      · (intro w hSw; (try dsimp only at hSw); go_simp; try with_reducible rfl)
      try simp only [Act.put, List.getElem_toArray, List.getElem_cons_zero, List.getElem_cons_succ, List.setIfInBounds_toArray, List.set_cons_zero, List.set_cons_succ]
      refine wpAnyH_take (i := 1) (oi := _) (v := ?_) rfl (by kernel_rfl) (by kernel_rfl) (by kernel_rfl) (fun _ _ _ h => h) (Or.inl ⟨by rfl, ?_⟩) (by assumption) ?_
      rotate_left
      · (intro w hSw; (try dsimp only at hSw); go_simp; try with_reducible rfl)
      try simp only [Act.put, List.getElem_toArray, List.getElem_cons_zero, List.getElem_cons_succ, List.setIfInBounds_toArray, List.set_cons_zero, List.set_cons_succ]
      refine wpAnyH_ready (rs := [2]) (by kernel_rfl) (by simp) ?_
      refine (AllReadyH.cons (o := _) rfl (fun K hK => ?_) AllReadyH.nil)
      refine step_copy_St (M := bk r 61 zero20 :: M) (by rfl) (.tmp 16) (.tmp 17) 22 22 (by rfl) 5 Tryd.underlying22 size5 (r + 1) 0 64 64 ⟨q, 0, none⟩ 20 20 (by rfl) (by rfl) (bvs (List.replicate 64 0)) 75 hs5 (bvs T) (by rw [bvs_len, HTL.out]; rfl) hrd (by rw [bvs_len, bvs_len, HTL.out, List.length_replicate]; omega) (bvs_one T) ?_
      intro W hs6
      try clear hHeld
      refine hK.out _ _ (by (try dsimp only); first | done | trivial) (fun hHeld => ?_)
      clear hK K
      try simp only [Act.put, List.getElem_toArray, List.getElem_cons_zero, List.getElem_cons_succ, List.setIfInBounds_toArray, List.set_cons_zero, List.set_cons_succ]
      have HS7 := Lib.hid hs6
      clear hs6 hs5 hrd
      refine wpAnyH_done (by kernel_rfl) ?_ _
      go_wp2
      go_meet
      exact ⟨J4, Lib.hid ⟨HL.out, by have := HS7.out; rw [HPS.out] at this; rw [HSK.out]; exact this⟩⟩
  case rest =>
  obtain ⟨J, HE⟩ := hcut
  clear HS HK
  have HMS := Lib.hid (show macS kb mb = outS (shaS ((pk64 (shortKey kb)).map (· ^^^ 92) ++ outS (shaS ((pk64 (shortKey kb)).map (· ^^^ 54) ++ mb)))) from rfl)
  have hkl := pk64_len (shortKey_len kb)
  generalize pk64 (shortKey kb) = kk at HE HMS hkl
  obtain ⟨J2, hl2, hs2, ho2⟩ := HE.out.2.freezeBlk
  have hkb : Byts J2 (some ⟨r + 1, 0, none⟩) kk := Byts.ofBlk ho2 rfl
  have HL2 := Lib.hid (HE.out.1.trans hl2)
  have HKB := Lib.hid (show ∀ (N : List Res) (w' : World), St J2 N w' → ∀ j, j < 64 → w'.cell? ⟨r + 1, j, none⟩ = some (.int .u8 (kk.getD j 0).toNat) from fun N w' h j hj => by
    obtain ⟨g, o, e, hc⟩ := hkb.at (by omega)
    injection e with e
    injection e with e1 e2
    subst e1 e2
    have := hc N w' h j (by omega)
    rw [Nat.zero_add] at this
    rw [this]
    simp [hkl, hj])
  have HS0 := Lib.hid (show St J2 (row 5 1 (.slice none 0 0) 0 (bvs ((kk.take 0).map (· ^^^ 54))) :: row 5 1 (.slice none 0 0) 0 (bvs ((kk.take 0).map (· ^^^ 92))) :: bk r 61 zero20 :: M) _ from hs2.nil.nil)
  clear HE hs2 ho2 hl2 hkb
  go_upto_block 0 with fail
  go_cut [7, 8] (fun iv ov wx => ∃ (A B : Option Addr) (c d : Nat), iv = .slice A 64 c ∧ ov = .slice B 64 d ∧ Hid (St J2 (row 5 1 (.slice A 64 c) 64 (bvs (kk.map (· ^^^ 54))) :: row 5 1 (.slice B 64 d) 64 (bvs (kk.map (· ^^^ 92))) :: bk r 61 zero20 :: M) wx))
  case first =>
    go_wp2_with fail
    go_loopw [7, 8, 22] (fun iv ov kv wr => ∃ (k : Nat) (A B : Option Addr) (c d : Nat), k ≤ 64 ∧ kv = .int .i64 k ∧ iv = .slice A k c ∧ ov = .slice B k d ∧ Hid (St J2 (row 5 1 (.slice A k c) k (bvs ((kk.take k).map (· ^^^ 54))) :: row 5 1 (.slice B k d) k (bvs ((kk.take k).map (· ^^^ 92))) :: bk r 61 zero20 :: M) wr)) (fun _ _ kv _ => 64 - (intOf kv).toNat)
    case atStart => exact ⟨0, none, none, 0, 0, by omega, rfl, rfl, rfl, HS0⟩
    case round =>
      obtain ⟨k, A, B, c, d, hk, rfl, rfl, rfl, HK⟩ := hrel
      clear HS0
      by_cases hlt : k < 64
      rotate_left
      · obtain rfl : k = 64 := by omega
        have hst := HK.out
        rw [List.take_of_length_le (by omega)] at hst
        have HS1 := Lib.hid hst
        clear hlt hst HK hkl
        go_wp2
        go_meet
        exact ⟨A, B, c, d, rfl, rfl, HS1⟩
      have y0 := HKB.out _ _ HK.out k hlt
      have HT1 := Lib.hid (show bvs ((kk.take (k + 1)).map (· ^^^ 54)) = bvs ((kk.take k).map (· ^^^ 54)) ++ bvs [kk.getD k 0 ^^^ 54] from by rw [takeMap (by omega), bvs_append])
      have HT2 := Lib.hid (show bvs ((kk.take (k + 1)).map (· ^^^ 92)) = bvs ((kk.take k).map (· ^^^ 92)) ++ bvs [kk.getD k 0 ^^^ 92] from by rw [takeMap (by omega), bvs_append])
      have hx1 : bits .xor .u8 ((kk.getD k 0).toNat : Int) 54 = ((kk.getD k 0 ^^^ 54).toNat : Int) := u8_xor (kk.getD k 0) 54
      have hx2 : bits .xor .u8 ((kk.getD k 0).toNat : Int) 92 = ((kk.getD k 0 ^^^ 92).toNat : Int) := u8_xor (kk.getD k 0) 92
      have hcell : ∀ (N : List Res) (w' : World), St J2 N w' → w'.cell? ⟨r + 1, k, none⟩ = some (.int .u8 (kk.getD k 0).toNat) := fun N w' h => HKB.out N w' h k hlt
      generalize kk.getD k 0 ^^^ 54 = b1 at HT1 hx1
      generalize kk.getD k 0 ^^^ 92 = b2 at HT2 hx2
      generalize kk.getD k 0 = x at y0 hx1 hx2 hcell
      have HCL := Lib.hid hcell
      clear hcell
      have Hl := Lib.hid (lit_src (P := Tryd.prog) (w := wr) (t := 22) (e := 5) Tryd.underlying22 [b1])
      have Hown := Lib.hid ((show wr.ownsRow 0 5 1 (.slice A k c) k (bvs ((kk.take k).map (· ^^^ 54))) from HK.out.head).alloc (.cells #[.int .u8 b1.toNat] 5))
      go_wp2_with (at_builtin; refine wpList_append_src _ rfl _ _ 22 22 rfl 0 5 i0 (.int .u8 0) 1 1 Tryd.underlying22 hi hz0 hz1 hz2 rfl _ _ _ rfl Hown.out _ _ _ rfl Hl.out (by unfold maxLen; simp only [List.length_cons, List.length_nil]; omega) (by simp only [List.length_cons, List.length_nil]; omega) (by simp) ?_)
      intro v6 w6 hown' hgrow hat
      have hst6 := St.grown (HK.out.grow (.cells #[.int .u8 b1.toNat] 5)) hgrow hown' (by simpa using hat)
      clear hown' hgrow hat
      obtain ⟨A6, c6, rfl⟩ := own_form hst6.head
      have HS6 := Lib.hid hst6.swap1
      have y1 := HCL.out _ _ hst6
      clear hst6
      have Hl2 := Lib.hid (lit_src (P := Tryd.prog) (w := w6) (t := 22) (e := 5) Tryd.underlying22 [b2])
      have Hown2 := Lib.hid ((show w6.ownsRow 0 5 1 (.slice B k d) k (bvs ((kk.take k).map (· ^^^ 92))) from HS6.out.head).alloc (.cells #[.int .u8 b2.toNat] 5))
      clear Hl Hown HK y0
      go_wp2_with (at_builtin; refine wpList_append_src _ rfl _ _ 22 22 rfl 0 5 i0 (.int .u8 0) 1 1 Tryd.underlying22 hi hz0 hz1 hz2 rfl _ _ _ rfl Hown2.out _ _ _ rfl Hl2.out (by unfold maxLen; simp only [List.length_cons, List.length_nil]; omega) (by simp only [List.length_cons, List.length_nil]; omega) (by simp) ?_)
      intro v7 w7 hown' hgrow hat
      have hst7 := St.grown (HS6.out.grow (.cells #[.int .u8 b2.toNat] 5)) hgrow hown' (by simpa using hat)
      clear hown' hgrow hat
      obtain ⟨A7, c7, rfl⟩ := own_form hst7.head
      have HS7 := Lib.hid hst7.swap1
      clear hst7
      go_wp2
      go_roundw
      case rel => exact ⟨k + 1, A6, A7, c6, c7, by omega, by go_num, rfl, rfl, Lib.hid (by rw [HT1.out, HT2.out, List.map_take, List.map_take]; exact HS7.out)⟩
      case measure => simp [intOf]; omega
  case rest =>
  obtain ⟨A, B, c, d, rfl, rfl, HK⟩ := hcut
  clear HS0 HKB
  have hl54 : (kk.map (· ^^^ 54)).length = 64 := by rw [List.length_map, hkl]
  have hl92 : (kk.map (· ^^^ 92)).length = 64 := by rw [List.length_map, hkl]
  generalize kk.map (· ^^^ 54) = P1 at HK hl54 HMS
  generalize kk.map (· ^^^ 92) = P2 at HK hl92 HMS
  have HB2 := Lib.hid (HM.out.mono HL2.out)
  have Hsrc := Lib.hid (HB2.out.src HK.out Tryd.underlying22 mc)
  have Hown := Lib.hid (show wc.ownsRow 0 5 1 (.slice A 64 c) 64 (bvs P1) from HK.out.head)
  clear HM
  go_wp2_with (at_builtin; refine wpList_append_src _ rfl _ _ 22 22 rfl 0 5 i0 (.int .u8 0) 1 1 Tryd.underlying22 hi hz0 hz1 hz2 rfl _ _ _ rfl Hown.out _ _ _ rfl Hsrc.out (by unfold maxLen; omega) (by omega) (by simp) ?_)
  intro v6 w6 hown' hgrow hat
  have hst6 := St.grown HK.out hgrow hown' hat
  clear hown' hgrow hat
  obtain ⟨A6, c6, rfl⟩ := own_form hst6.head
  have HS6 := Lib.hid hst6
  clear hst6
  have hst6 := HS6.out
  rw [← bvs_append] at hst6
  obtain ⟨J3, hl3, hs3, hb3⟩ := hst6.freezeRow
  have hPl : 64 + mb.length = (P1 ++ mb).length := by rw [List.length_append, hl54]
  have HC : Hid (Calls Tryd.prog 47 #[.slice A6 (64 + mb.length) c6] w6 (Ret J3 (fun v _ M' => v = .agg (bvs (outS (shaS (P1 ++ mb)))).toArray ∧ M' = row 5 1 (.slice B 64 d) 64 (bvs P2) :: bk r 61 zero20 :: M))) := by
    have := sumR J3 _ w6 A6 c6 (P1 ++ mb) hs3 hb3 (by omega)
    rw [← hPl] at this
    exact Lib.hid this
  have HL3 := Lib.hid (HL2.out.trans hl3)
  clear HS6 hst6 hs3 hb3 Hsrc Hown HK hl3 HL2 HB2 hPl
  go_wp2_with fail
  go_at_call 47
  refine HC.out.mono ?_
  rintro e w2 ⟨_, J4, _, rfl, hl4, hs2, rfl, rfl⟩
  clear HC
  obtain ⟨T, hT⟩ : ∃ T, T = outS (shaS (P1 ++ mb)) := ⟨_, rfl⟩
  have hTl : T.length = 20 := by rw [hT]; rfl
  rw [← hT]
  rw [← hT] at HMS
  have hs3 := hs2.alloc 61 zero20
  obtain ⟨O, hO⟩ : ∃ O, O = (bvs T).toArray := ⟨_, rfl⟩
  have hi61 : (Tryd.prog.info? 61).map (·.size) = some O.size := by rw [info61, hO]; simp [bvs, hTl]
  have ho1 : O.all (·.oneCell') = true := by rw [hO, List.all_toArray]; exact List.all_eq_true.2 (bvs_one _)
  have hos : zero20.size = O.size := by rw [hO]; simp [bvs, hTl]
  rw [← hO]
  have HO := Lib.hid hO
  have hbx : (w2.alloc (.cells zero20 61)).heap[w2.heap.size]? = some (.cells zero20 61 (0, 0)) := hs3.head
  have HS4 := Lib.hid (hs3.setR O).freezeBlk
  clear hs2 hs3 hO hT
  go_upto_region 14 with (refine wpList_store_row rfl 61 (.tmp 10) (.tmp 43) rfl w2.heap.size O rfl rfl 61 _ hbx hi61 hos ho1 ?_)
  obtain ⟨J5, hl5, hs5, ho5⟩ := HS4.out
  generalize World.setRow _ _ _ = W3 at hs5 ⊢
  obtain ⟨q, hq⟩ : ∃ q, q = w2.heap.size := ⟨_, rfl⟩
  rw [← hq] at ho5 ⊢
  clear HS4 hbx hq
  have hT5 : Byts J5 (some ⟨q, 0, none⟩) T := Byts.ofBlk ho5 (by rw [HO.out])
  have Hsrc := Lib.hid (show Src Tryd.prog 1 22 (.slice (some ⟨q, 0, none⟩) 20 20) 20 (bvs T) W3 from by have := hT5.src hs5 Tryd.underlying22 20; rwa [hTl] at this)
  have HK := Lib.hid hs5
  have Hown := Lib.hid (show W3.ownsRow 0 5 1 (.slice B 64 d) 64 (bvs P2) from hs5.head)
  have HL5 := Lib.hid (HL3.out.trans (hl4.trans hl5))
  clear hs5 ho5 hT5 hl4 hl5 HL3
  go_wp2_with (at_builtin; refine wpList_append_src _ rfl _ _ 22 22 rfl 0 5 i0 (.int .u8 0) 1 1 Tryd.underlying22 hi hz0 hz1 hz2 rfl _ _ _ rfl Hown.out _ _ _ rfl Hsrc.out (by unfold maxLen; omega) (by omega) (by simp) ?_)
  intro v7 w7 hown' hgrow hat
  have hst7 := St.grown HK.out hgrow hown' hat
  clear hown' hgrow hat
  obtain ⟨A7, c7, rfl⟩ := own_form hst7.head
  have HS7 := Lib.hid hst7
  clear hst7
  have hst7 := HS7.out
  rw [← bvs_append] at hst7
  obtain ⟨J6, hl6, hs6, hb6⟩ := hst7.freezeRow
  have hPl : 64 + 20 = (P2 ++ T).length := by rw [List.length_append, hl92, hTl]
  have HC : Hid (Calls Tryd.prog 47 #[.slice A7 84 c7] w7 (Ret J6 (fun v _ M' => v = .agg (bvs (outS (shaS (P2 ++ T)))).toArray ∧ M' = bk r 61 zero20 :: M))) := by
    have := sumR J6 _ w7 A7 c7 (P2 ++ T) hs6 hb6 (by omega)
    rw [← hPl] at this
    exact Lib.hid this
  have HL6 := Lib.hid (HL5.out.trans hl6)
  clear HS7 hst7 hs6 hb6 Hsrc Hown HK hl6 HL5 hPl
  go_wp2_with fail
  go_at_call 47
  refine HC.out.mono ?_
  rintro e w9 ⟨_, J7, _, rfl, hl7, hs9, rfl, rfl⟩
  obtain ⟨O2, hO2⟩ : ∃ O2, O2 = (bvs (outS (shaS (P2 ++ T)))).toArray := ⟨_, rfl⟩
  rw [← hO2]
  have hi62 : (Tryd.prog.info? 61).map (·.size) = some O2.size := by rw [info61, hO2]; rfl
  have ho2 : O2.all (·.oneCell') = true := by rw [hO2, List.all_toArray]; exact List.all_eq_true.2 (bvs_one _)
  have hos2 : zero20.size = O2.size := by rw [hO2]; rfl
  have HO2 := Lib.hid hO2
  have hbr : w9.heap[r]? = some (.cells zero20 61 (0, 0)) := hs9.head
  have HS8 := Lib.hid (hs9.setR O2)
  have HL7 := Lib.hid (HL6.out.trans hl7)
  clear hO2 hs9 hl7 HL6 HC
  go_wp2_with (refine wpList_store_row rfl 61 (.tmp 4) (.tmp 47) rfl r O2 rfl rfl 61 _ hbr hi62 hos2 ho2 ?_)
  refine bodyPost_ret (results_cell_row (p := 4) (ty := 61) rfl _ _ r 61 O2 (0, 0) _ rfl HS8.out.head Tryd.underlying61 rfl hi62) rfl ?_
  exact Ret.mk HL7.out HS8.out.drop ⟨by rw [HMS.out, HO2.out], rfl⟩
set_option maxRecDepth 8000 in
set_option maxHeartbeats 2000000 in
theorem hexRf (I : Img) (M : List Res) (w : World) (A : Option Addr) (c : Nat) (l : List UInt8) (hst : St I M w) (hl : Byts I A l) (hn : l.length ≤ 1000) :
    Calls Tryd.prog 30 #[.slice A l.length c] w (Ret I (fun v J M' => I = J ∧ v = .string (bsA (hexOf l)) ∧ M' = M)) := by
  obtain ⟨i0, hi, hz0, hz1, hz2⟩ : ∃ i, Tryd.prog.info? 5 = some i ∧ i.zero = some (.int .u8 0) ∧ i.size = 1 ∧ i.bytes = 1 := by
    obtain ⟨i, h1, h2⟩ := Option.map_eq_some_iff.1 (show (Tryd.prog.info? 5).map (fun i => (i.zero, i.size, i.bytes)) = some (some (.int .u8 0), 1, 1) by kernel_rfl)
    simp only [Prod.mk.injEq] at h2
    exact ⟨i, h1, h2.1, h2.2.1, h2.2.2⟩
  have HS := Lib.hid (show St I (row 5 1 (.slice none 0 0) 0 (bvs (hexOf (l.take 0))) :: M) w from hst.nil)
  have HBY := Lib.hid hl
  clear hst hl
  go_enter Tryd.func30, Tryd.ntmps30
  go_wp2_with fail
  go_loopw [3, 7] (fun ov kv wr => ∃ (k n : Nat) (B : Option Addr) (d : Nat), k ≤ l.length ∧ n = 2 * k ∧ kv = .int .i64 k ∧ ov = .slice B n d ∧ Hid (St I (row 5 1 (.slice B n d) n (bvs (hexOf (l.take k))) :: M) wr)) (fun _ kv _ => l.length - (intOf kv).toNat)
  case atStart => exact ⟨0, 0, none, 0, Nat.zero_le _, rfl, rfl, rfl, HS⟩
  case round =>
    obtain ⟨k, n, B, d, hk, hnk, rfl, rfl, HSr⟩ := hrel
    clear HS
    by_cases hlt : k < l.length
    rotate_left
    · obtain rfl : k = l.length := by omega
      have hst := HSr.out
      rw [List.take_of_length_le (Nat.le_refl _)] at hst
      obtain ⟨J, hlJ, hsJ, hbJ⟩ := hst.freezeRow
      have hnl : n = (hexOf l).length := by rw [hexOf_len]; exact hnk
      subst hnl
      have hconv := Byts.conv (P := Tryd.prog) (e := 5) hbJ hsJ Tryd.underlying22 Tryd.underlying5 Tryd.underlying9 d
      have HD := Lib.hid hst.drop
      clear HSr hst hsJ hbJ hlJ hlt hnk
      go_wp2
      go_ret
      exact Ret.mk (.refl I) HD.out ⟨rfl, rfl, rfl⟩
    have HTK := Lib.hid (take_hex hlt)
    obtain ⟨g, o, rfl, hc⟩ := Byts.at HBY.out (by omega)
    have hx := (l[k]).toNat_lt
    have HC := Lib.hid (show ∀ (N : List Res) (w : World), St I N w → w.cell? ⟨g, o + k, none⟩ = some (.int .u8 l[k].toNat) from fun N w h => hc N w h k hlt)
    clear hc
    generalize l[k] = x at HTK HC hx
    obtain ⟨q1, hq1⟩ : ∃ q, q = x.toNat / 16 := ⟨_, rfl⟩
    obtain ⟨q2, hq2⟩ : ∃ q, q = x.toNat % 16 := ⟨_, rfl⟩
    have hb1 : (q1 : Int) < 16 := by omega
    have hb2 : (q2 : Int) < 16 := by omega
    have hw1 : IntKind.u8.wrap ((x.toNat : Int).tdiv 16) = (q1 : Int) := by rw [u8_mod, Int.tdiv_eq_ediv_of_nonneg (by omega)]; omega
    have hw2 : IntKind.u8.wrap ((x.toNat : Int).tmod 16) = (q2 : Int) := by rw [u8_mod, Int.tmod_eq_emod_of_nonneg (by omega)]; omega
    have hw3 : (x.toNat : Int).tdiv 16 = (q1 : Int) := by rw [Int.tdiv_eq_ediv_of_nonneg (by omega)]; omega
    have hw4 : (x.toNat : Int).tmod 16 = (q2 : Int) := by rw [Int.tmod_eq_emod_of_nonneg (by omega)]; omega
    have hw5 : IntKind.u8.wrap (q1 : Int) = (q1 : Int) := by rw [u8_mod]; omega
    have hw6 : IntKind.u8.wrap (q2 : Int) = (q2 : Int) := by rw [u8_mod]; omega
    rw [← hq1, ← hq2] at HTK
    obtain ⟨d1, hd1⟩ : ∃ d, d = digH q1 := ⟨_, rfl⟩
    obtain ⟨d2, hd2⟩ : ∃ d, d = digH q2 := ⟨_, rfl⟩
    have h4 : ∀ h, (⟨#[48, 49, 50, 51, 52, 53, 54, 55, 56, 57, 97, 98, 99, 100, 101, 102]⟩ : ByteArray)[q1]'h = d1 := fun h => by rw [hd1]; exact hexTab (by omega) h
    have h5 : ∀ h, (⟨#[48, 49, 50, 51, 52, 53, 54, 55, 56, 57, 97, 98, 99, 100, 101, 102]⟩ : ByteArray)[q2]'h = d2 := fun h => by rw [hd2]; exact hexTab (by omega) h
    rw [← hd1, ← hd2] at HTK
    have hs := HSr.out.drew
    have hn2 : n ≤ 2000 := by omega
    have HNK := Lib.hid hnk
    clear HSr hd1 hd2 hnk hq1 hq2 hx
    go_upto_region 5 with fail
    refine wp_region_held_drew (S := (fun w' => w'.cell? ⟨g, o + k, none⟩ = some (.int .u8 x.toNat))) (by kernel_rfl) (by (try dsimp only); exact HC.out _ _ hs) (fun hHeld => ?_)
    generalize World.drew _ = W at hs hHeld ⊢
    refine wpAnyH_take (i := 0) (oi := _) (v := ?_) rfl (by kernel_rfl) (by kernel_rfl) (by kernel_rfl) (fun _ _ _ h => h) (Or.inl ⟨by rfl, ?_⟩) (by assumption) ?_
    rotate_left
    · (intro w hSw; (try dsimp only at hSw); go_simp; try with_reducible rfl)
    try simp only [Act.put, List.getElem_toArray, List.getElem_cons_zero, List.getElem_cons_succ, List.setIfInBounds_toArray, List.set_cons_zero, List.set_cons_succ]
    refine wpAnyH_take (i := 1) (oi := _) (v := ?_) rfl (by kernel_rfl) (by kernel_rfl) (by kernel_rfl) (fun _ _ _ h => h) (Or.inl ⟨by rfl, ?_⟩) (by assumption) ?_
    rotate_left
    · (intro w hSw; (try dsimp only at hSw); go_simp; try with_reducible rfl)
    try simp only [Act.put, List.getElem_toArray, List.getElem_cons_zero, List.getElem_cons_succ, List.setIfInBounds_toArray, List.set_cons_zero, List.set_cons_succ]
    refine wpAnyH_take (i := 2) (oi := _) (v := ?_) rfl (by kernel_rfl) (by kernel_rfl) (by kernel_rfl) (fun _ _ _ h => h) (Or.inl ⟨by rfl, ?_⟩) (by assumption) ?_
    rotate_left
    · (intro w hSw; (try dsimp only at hSw); go_simp; try with_reducible rfl)
    try simp only [Act.put, List.getElem_toArray, List.getElem_cons_zero, List.getElem_cons_succ, List.setIfInBounds_toArray, List.set_cons_zero, List.set_cons_succ]
    refine wpAnyH_take (i := 3) (oi := _) (v := ?_) rfl (by kernel_rfl) (by kernel_rfl) (by kernel_rfl) (fun _ _ _ h => h) (Or.inl ⟨by rfl, ?_⟩) (by assumption) ?_
    rotate_left
    · (intro w hSw; (try dsimp only at hSw); go_simp; try with_reducible rfl)
    try simp only [Act.put, List.getElem_toArray, List.getElem_cons_zero, List.getElem_cons_succ, List.setIfInBounds_toArray, List.set_cons_zero, List.set_cons_succ]
    refine wpAnyH_take (i := 4) (oi := _) (v := ?_) rfl (by kernel_rfl) (by kernel_rfl) (by kernel_rfl) (fun _ _ _ h => h) (Or.inl ⟨by rfl, ?_⟩) (by assumption) ?_
    rotate_left
    · (intro w hSw; (try dsimp only at hSw); go_simp; try with_reducible rfl)
    try simp only [Act.put, List.getElem_toArray, List.getElem_cons_zero, List.getElem_cons_succ, List.setIfInBounds_toArray, List.set_cons_zero, List.set_cons_succ]
    refine wpAnyH_take (i := 5) (oi := _) (v := ?_) rfl (by kernel_rfl) (by kernel_rfl) (by kernel_rfl) (fun _ _ _ h => h) (Or.inl ⟨by rfl, ?_⟩) (by assumption) ?_
    rotate_left
    · (intro w hSw; (try dsimp only at hSw); go_simp; try with_reducible rfl)
    try simp only [Act.put, List.getElem_toArray, List.getElem_cons_zero, List.getElem_cons_succ, List.setIfInBounds_toArray, List.set_cons_zero, List.set_cons_succ]
    refine wpAnyH_take (i := 6) (oi := _) (v := ?_) rfl (by kernel_rfl) (by kernel_rfl) (by kernel_rfl) (fun _ _ _ h => h) (Or.inl ⟨by rfl, ?_⟩) (by assumption) ?_
    rotate_left
    · (intro w hSw; (try dsimp only at hSw); go_simp; try with_reducible rfl)
    try simp only [Act.put, List.getElem_toArray, List.getElem_cons_zero, List.getElem_cons_succ, List.setIfInBounds_toArray, List.set_cons_zero, List.set_cons_succ]
    refine wpAnyH_take (i := 7) (oi := _) (v := ?_) rfl (by kernel_rfl) (by kernel_rfl) (by kernel_rfl) (fun _ _ _ h => h) (Or.inl ⟨by rfl, ?_⟩) (by assumption) ?_
    rotate_left
    · (intro w hSw; (try dsimp only at hSw); go_simp; try with_reducible rfl)
    try simp only [Act.put, List.getElem_toArray, List.getElem_cons_zero, List.getElem_cons_succ, List.setIfInBounds_toArray, List.set_cons_zero, List.set_cons_succ]
    refine wpAnyH_take (i := 8) (oi := _) (v := ?_) rfl (by kernel_rfl) (by kernel_rfl) (by kernel_rfl) (fun _ _ _ h => h) (Or.inl ⟨by rfl, ?_⟩) (by assumption) ?_
    rotate_left
    · (intro w hSw; (try dsimp only at hSw); go_simp; try with_reducible rfl)
    try simp only [Act.put, List.getElem_toArray, List.getElem_cons_zero, List.getElem_cons_succ, List.setIfInBounds_toArray, List.set_cons_zero, List.set_cons_succ]
    refine wpAnyH_take (i := 9) (oi := _) (v := ?_) rfl (by kernel_rfl) (by kernel_rfl) (by kernel_rfl) (fun _ _ _ h => h) (Or.inl ⟨by rfl, ?_⟩) (by assumption) ?_
    rotate_left
    · (intro w hSw; (try dsimp only at hSw); go_simp; try with_reducible rfl)
    try simp only [Act.put, List.getElem_toArray, List.getElem_cons_zero, List.getElem_cons_succ, List.setIfInBounds_toArray, List.set_cons_zero, List.set_cons_succ]
    refine wpAnyH_take (i := 10) (oi := _) (v := ?_) rfl (by kernel_rfl) (by kernel_rfl) (by kernel_rfl) (fun _ _ _ h => h) (Or.inl ⟨by rfl, ?_⟩) (by assumption) ?_
    rotate_left
    · (intro w hSw; (try dsimp only at hSw); go_simp; try with_reducible rfl)
    try simp only [Act.put, List.getElem_toArray, List.getElem_cons_zero, List.getElem_cons_succ, List.setIfInBounds_toArray, List.set_cons_zero, List.set_cons_succ]
    refine wpAnyH_take (i := 11) (oi := _) (v := ?_) rfl (by kernel_rfl) (by kernel_rfl) (by kernel_rfl) (fun _ _ _ h => h) (Or.inl ⟨by rfl, ?_⟩) (by assumption) ?_
    rotate_left
    · (intro w hSw; (try dsimp only at hSw); go_simp; try with_reducible rfl)
    try simp only [Act.put, List.getElem_toArray, List.getElem_cons_zero, List.getElem_cons_succ, List.setIfInBounds_toArray, List.set_cons_zero, List.set_cons_succ]
    refine wpAnyH_take (i := 12) (oi := _) (v := ?_) rfl (by kernel_rfl) (by kernel_rfl) (by kernel_rfl) (fun _ _ _ h => h) (Or.inl ⟨by rfl, ?_⟩) (by assumption) ?_
    rotate_left
    · (intro w hSw; (try dsimp only at hSw); go_simp; try with_reducible rfl)
    try simp only [Act.put, List.getElem_toArray, List.getElem_cons_zero, List.getElem_cons_succ, List.setIfInBounds_toArray, List.set_cons_zero, List.set_cons_succ]
    refine wpAnyH_ready (rs := [13]) (by kernel_rfl) (by simp) ?_
    refine (AllReadyH.cons (o := _) rfl (fun K hK => ?_) AllReadyH.nil)
    have hsr := hs.litSrcV (P := Tryd.prog) (t := 22) (e := 5) (cs := #[.int .u8 d1.toNat, .int .u8 d2.toNat]) (n := 2) (size := 1) rfl (by decide) Tryd.underlying22 (by simp [Value.oneCell'])
    replace hs := hs.grow (.cells #[.int .u8 d1.toNat, .int .u8 d2.toNat] 5)
    go_simp
    try clear hHeld
    refine hK.out _ _ (by (try dsimp only); exact HC.out _ _ hs) (fun hHeld => ?_)
    clear hK K
    try simp only [Act.put, List.getElem_toArray, List.getElem_cons_zero, List.getElem_cons_succ, List.setIfInBounds_toArray, List.set_cons_zero, List.set_cons_succ]
    generalize World.alloc W _ = W at hs hHeld hsr ⊢
    refine wpAnyH_ready (rs := [14]) (by kernel_rfl) (by simp) ?_
    refine (AllReadyH.cons (o := _) rfl (fun K hK => ?_) AllReadyH.nil)
    refine step_append_src _ (by rfl) _ _ 22 22 (by rfl) 0 5 i0 (.int .u8 0) 1 1 Tryd.underlying22 hi hz0 hz1 hz2 rfl _ n (bvs (hexOf (l.take k))) (by rfl) hs.head _ 2 _ (by rfl) hsr (by unfold maxLen; omega) (by omega) (Nat.zero_le _) ?_
    intro v' W hown' hgrow hat
    have hown2 : W.ownsRow 0 5 1 v' (n + 2) (bvs (hexOf (l.take (k + 1)))) := by rw [HTK.out, bvs_append, bvs_append, List.append_assoc]; exact hown'
    obtain ⟨A10, c10, rfl⟩ := own_form hown2
    replace hs := hs.grown hgrow hown2 hat
    clear hown' hown2 hgrow hat hsr
    try clear hHeld
    refine hK.out _ _ (by (try dsimp only); exact HC.out _ _ hs) (fun hHeld => ?_)
    clear hK K
    try simp only [Act.put, List.getElem_toArray, List.getElem_cons_zero, List.getElem_cons_succ, List.setIfInBounds_toArray, List.set_cons_zero, List.set_cons_succ]
    refine wpAnyH_take (i := 15) (oi := _) (v := ?_) rfl (by kernel_rfl) (by kernel_rfl) (by kernel_rfl) (fun _ _ _ h => h) (Or.inl ⟨by rfl, ?_⟩) (by assumption) ?_
    rotate_left
    · (intro w hSw; (try dsimp only at hSw); go_simp; try with_reducible rfl)
    try simp only [Act.put, List.getElem_toArray, List.getElem_cons_zero, List.getElem_cons_succ, List.setIfInBounds_toArray, List.set_cons_zero, List.set_cons_succ]
    refine wpAnyH_done (by kernel_rfl) ?_ _
    have HS9 := Lib.hid hs
    clear hs hHeld
    go_wp2
    go_roundw
    case rel => exact ⟨k + 1, n + 2, A10, c10, by omega, by have := HNK.out; omega, by go_num, rfl, HS9⟩
    case measure => simp [intOf]; omega
end Go.Proofs.YtakgdmcekhafoaaDoor
