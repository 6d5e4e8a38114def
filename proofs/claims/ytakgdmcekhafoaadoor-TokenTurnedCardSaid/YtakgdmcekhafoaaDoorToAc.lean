/- TokenTurned: the law. -/
import Derived.Test.YtakgdmcekhafoaaDoorToAb
namespace Go.Proofs.YtakgdmcekhafoaaDoor
open Go.RowKit
set_option linter.unusedSimpArgs false

theorem mod_at {n : Nat} (h0 : 0 < n) (hn : n ≤ 1000) (a : Int) : ∃ i : Nat, i < n ∧ (a % 18446744073709551616) % (n : Int) = (i : Int) := by
  have h1 : 0 ≤ (a % 18446744073709551616) % (n : Int) := Int.emod_nonneg _ (by omega)
  have h2 : (a % 18446744073709551616) % (n : Int) < n := Int.emod_lt_of_pos _ (by omega)
  exact ⟨((a % 18446744073709551616) % (n : Int)).toNat, by omega, by omega⟩
set_option maxRecDepth 8000 in
set_option maxHeartbeats 8000000 in
theorem law6 (I : Img) (M : List Res) (w : World) (KA OA : Option Addr) (kc oc : Nat) (kb ob' : List UInt8) (c : Cl) (now at' by' mx : Int) (hst : St I M w) (hk : Byts I KA kb) (hkl : kb.length ≤ 140737488351232) (ho : Byts I OA ob') (hol : ob'.length ≤ 140737488351232) (ht : Tab10 I) (hm3 : I.cell? ⟨3, 0, none⟩ = some (.int .i64 mx))
    (he0 : ErrV I 0) (he1 : ErrV I 1) (hc : ClSz c) (hb0 : 0 ≤ by') (hb1 : by' < 256) :
    Calls Tryd.prog 6 #[.slice KA kb.length kc, .slice OA ob'.length oc, .agg (clC c), .int .i64 now, .int .i64 at', .int .u8 by'] w (Ret I (fun v _ _ => v = .bool true)) := by
  have hs := hst.alloc 24 (clC c)
  obtain ⟨b1, hb1'⟩ : ∃ b, b = w.heap.size := ⟨_, rfl⟩
  rw [← hb1'] at hs
  have HKK := Lib.hid (And.intro hk hkl)
  have HOO := Lib.hid (And.intro ho hol)
  have HM3 := Lib.hid hm3
  have HT := Lib.hid ht
  have HEV := Lib.hid (And.intro he0 he1)
  have HZ := Lib.hid hc
  have HBY := Lib.hid (And.intro hb0 hb1)
  clear hst hk hkl hm3 ht hc ho hol he0 he1 hb0 hb1
  go_enter Tryd.func6, Tryd.ntmps6
  go_upto_region 1 with fail
  rw [← hb1']
  clear hb1'
  generalize World.alloc _ _ = W at hs ⊢
  have HC := Lib.hid (awakeP I _ W hs HT.out)
  clear hs
  go_wp2_with fail
  go_at_call 8
  refine HC.out.mono ?_
  rintro e w1 ⟨_, J1, M1, rfl, hl1, hs, rfl, hM1⟩
  subst hM1
  clear HC
  have HL1 := Lib.hid hl1
  have HC := Lib.hid (makeRf J1 _ w1 KA kc kb c hs (HKK.out.1.mono HL1.out) HKK.out.2 HZ.out)
  obtain ⟨y0, y1, y2, y3⟩ := clK (show Blk _ b1 24 (clC c) from hs.head)
  clear hs hl1
  go_wp2_with fail
  go_at_call 9
  refine HC.out.mono ?_
  rintro e w3 ⟨_, J2, M3, rfl, hl2, hs, rfl, hM3⟩
  subst hM3
  clear HC y0 y1 y2 y3
  have HL2 := Lib.hid (HL1.out.trans hl2)
  clear hl2
  cases gc : goodC c
  · have e1 := makeR_bad kb gc
    rw [e1]
    have HS := Lib.hid hs
    clear gc e1 hs
    go_wp2
    go_ret
    exact Ret.mk HL2.out HS.out rfl
  have e1 : makeR kb c = (tokT kb c, 0) := makeR_good kb gc
  rw [e1]
  obtain ⟨S, hS⟩ : ∃ S, S = bsA (tokT kb c) := ⟨_, rfl⟩
  have hSz : S.size ≤ 141 := by rw [hS]; exact tok_size gc
  have hS0 : 0 < S.size := by
    rw [hS, bsA_size]
    unfold tokT
    rw [List.length_append, List.length_cons]
    omega
  simp only [← hS]
  clear e1 gc hS
  have hconv := run_bytes_of_string (P := Tryd.prog) w3 9 22 5 S Tryd.underlying9 Tryd.underlying22 Tryd.underlying5
  obtain ⟨cp, hcp⟩ : ∃ c, c = grownCap w3 S.size 0 5 := ⟨_, rfl⟩
  have hs1 := hs.drew.allocOb (.cells (bytesRow S (grownCap w3 S.size 0 5)) 5 ((bytesRow S (grownCap w3 S.size 0 5)).size, (bytesRow S (grownCap w3 S.size 0 5)).size + 1))
  rw [← hcp] at hconv hs1
  obtain ⟨i, hi, hie⟩ := mod_at hS0 (by omega) at'
  have hcell : (bytesRow S cp)[i]? = some (.int .u8 S[i].toNat) := bytesRow_get S cp i hi
  have hrs : i < (bytesRow S cp).size := by
    rcases Nat.lt_or_ge i (bytesRow S cp).size with h | h
    · exact h
    · rw [Array.getElem?_eq_none h] at hcell; cases hcell
  obtain ⟨cells, hcells⟩ : ∃ cells, cells = bytesRow S cp := ⟨_, rfl⟩
  have HG := Lib.hid (show ∀ j (hj : j < S.size), cells[j]? = some (.int .u8 S[j].toNat) from fun j hj => by rw [hcells]; exact bytesRow_get S cp j hj)
  rw [← hcells] at hconv hs1 hrs hcell
  have hgsz : w3.drew.heap.size = w3.heap.size := rfl
  rw [hgsz] at hs1
  generalize World.alloc w3.drew _ = w4 at hconv hs1
  generalize w3.heap.size = g at hconv hs1
  clear hcells hcp hgsz
  obtain ⟨b, hbe⟩ : ∃ b : UInt8, ((S[i].toNat : Int) + by') % 256 = (b.toNat : Int) := ⟨UInt8.ofNat (((S[i].toNat : Int) + by') % 256).toNat, by rw [UInt8.toNat_ofNat']; omega⟩
  have hob : w4.heap[g]? = some (.cells cells 5 (cells.size, cells.size + 1)) := hs1.head
  have z0 : w4.cell? ⟨g, i, none⟩ = some (.int .u8 S[i].toNat) := (cell_of_row w4 g i cells 5 _ hob).trans hcell
  have f0 : w4.frozen? ⟨g, i, none⟩ = false := by
    unfold World.frozen?
    rw [hob]
    simp
    omega
  have hs2 := hs1.obSet i (.int .u8 b.toNat)
  obtain ⟨J3, hl3, hs3, ho3⟩ := hs2.freezeOb
  have hl' : ((ls S).set i b).length = S.size := by rw [List.length_set, ls_len]
  have hb3 : Byts J3 (some ⟨g, 0, none⟩) ((ls S).set i b) := Byts.ofOb ho3 (fun j hj => by
    rw [hl'] at hj
    rw [Array.getElem?_setIfInBounds]
    by_cases h : i = j
    · subst h
      rw [if_pos rfl, if_pos hrs]
      simp
    · rw [if_neg h, HG.out j hj]
      simp [h]
      rfl)
  have hcv := Byts.conv (P := Tryd.prog) (e := 5) hb3 hs3 Tryd.underlying22 Tryd.underlying5 Tryd.underlying9 cp
  rw [hl'] at hcv
  obtain ⟨S2, hS2⟩ : ∃ S2 : ByteArray, S2 = ⟨((ls S).set i b).toArray⟩ := ⟨_, rfl⟩
  rw [← hS2] at hcv
  have hS2z : S2.size ≤ 4000000 := by
    rw [hS2]
    show ((ls S).set i b).toArray.size ≤ _
    rw [List.size_toArray, hl']
    omega
  have hS1z : S.size ≤ 4000000 := by omega
  have HL3 := Lib.hid (HL2.out.trans hl3)
  have HCV := Lib.hid hcv
  have HS3 := Lib.hid hs3
  have hi' : (i : Int) < S.size := by omega
  have hiw : (IntKind.u64.wrap at').tmod (S.size : Int) = (i : Int) := by rw [u64_mod, Int.tmod_eq_emod_of_nonneg (Int.emod_nonneg _ (by omega))]; exact hie
  have hw6 : wrap64 (i : Int) = (i : Int) := by unfold wrap64; omega
  have hit : (at' % 18446744073709551616).tmod (S.size : Int) = (i : Int) := by rw [Int.tmod_eq_emod_of_nonneg (Int.emod_nonneg _ (by omega))]; exact hie
  have HJ : Hid (∀ (J : Img) (N : List Res) (w' : World), J3.le J → St J N w' → Calls Tryd.prog 14 #[.slice KA kb.length kc, .string S2, .int .i64 now] w' (Ret J (fun v _ M' => v = .bool true ∧ M' = N)) ∧ Calls Tryd.prog 14 #[.slice KA kb.length kc, .string S, .int .i64 now] w' (Ret J (fun v _ M' => v = .bool true ∧ M' = N)) ∧ Calls Tryd.prog 14 #[.slice OA ob'.length oc, .string S, .int .i64 now] w' (Ret J (fun v _ M' => v = .bool true ∧ M' = N))) := Lib.hid (fun J N w' hle h => by
    have hh := HL3.out.trans hle
    exact ⟨judgedP J N w' KA kc kb S2 now mx h (HKK.out.1.mono hh) HKK.out.2 (HT.out.mono hh) (hh.cell HM3.out) (HEV.out.1.mono hh) (HEV.out.2.mono hh) hS2z,
      judgedP J N w' KA kc kb S now mx h (HKK.out.1.mono hh) HKK.out.2 (HT.out.mono hh) (hh.cell HM3.out) (HEV.out.1.mono hh) (HEV.out.2.mono hh) hS1z,
      judgedP J N w' OA oc ob' S now mx h (HOO.out.1.mono hh) HOO.out.2 (HT.out.mono hh) (hh.cell HM3.out) (HEV.out.1.mono hh) (HEV.out.2.mono hh) hS1z⟩)
  clear hs hs1 hs2 hl3 hs3 ho3 hb3 hl' hS2 hS2z hS1z hob hcell hrs hcv HG
  go_upto_region 8 with fail
  generalize World.setCell _ _ _ = W5 at HCV HS3 ⊢
  have hcv := HCV.out
  have HC := Lib.hid (HJ.out J3 _ W5 (.refl _) HS3.out).1
  go_wp2_with fail
  go_at_call 14
  refine HC.out.mono ?_
  rintro e w5 ⟨_, J4, M5, rfl, hl4, hs4, rfl, hM5⟩
  clear HC
  have HC := Lib.hid (HJ.out J4 _ w5 hl4 hs4).2.2
  clear hs4 hcv HCV HS3
  go_wp2_with fail
  go_at_call 14
  refine HC.out.mono ?_
  rintro e w6 ⟨_, J5, M6, rfl, hl5, hs5, rfl, hM6⟩
  clear HC
  have HC := Lib.hid (HJ.out J5 _ w6 (hl4.trans hl5) hs5).2.1
  clear hs5
  go_wp2_with fail
  go_at_call 14
  refine HC.out.mono ?_
  rintro e w7 ⟨_, J6, M7, rfl, hl6, hs6, rfl, hM7⟩
  have HS := Lib.hid hs6
  clear HC hs6
  go_wp2
  go_ret
  exact Ret.mk (HL3.out.trans (hl4.trans (hl5.trans hl6))) HS.out rfl
end Go.Proofs.YtakgdmcekhafoaaDoor
