/- rostrumref22.points. -/
import Derived.Test.YtakgdmcekhafoaaDoorToY
import Derived.Test.YtakgdmcekhafoaaDoorSl
import Derived.BigRegion
namespace Go.Proofs.YtakgdmcekhafoaaDoor
open Go.RowKit
set_option linter.unusedSimpArgs false

theorem splitC_snoc (c b : UInt8) : ∀ l, splitC c (l ++ [b]) = if b = c then splitC c l ++ [[]] else (splitC c l).dropLast ++ [(splitC c l).getLastD [] ++ [b]]
  | [] => by
    by_cases h : b = c <;> simp [splitC, h]
  | a :: l => by
    have ih := splitC_snoc c b l
    obtain ⟨x, r, e⟩ := splitC_ne c l
    rw [e] at ih
    by_cases ha : a = c
    · have e1 : splitC c (a :: l ++ [b]) = [] :: splitC c (l ++ [b]) := by
        show splitC c (a :: (l ++ [b])) = _
        rw [splitC, if_pos ha]
      have e2 : splitC c (a :: l) = [] :: x :: r := by rw [splitC, if_pos ha, e]
      rw [e1, e2, ih]
      by_cases hb : b = c <;> simp [hb]
    · have e2 : splitC c (a :: l) = (a :: x) :: r := by rw [splitC, if_neg ha, e]
      have e1 : splitC c (a :: l ++ [b]) = match splitC c (l ++ [b]) with
          | [] => [[a]]
          | x :: r => (a :: x) :: r := by
        show splitC c (a :: (l ++ [b])) = _
        rw [splitC, if_neg ha]
        obtain ⟨x', r', e'⟩ := splitC_ne c (l ++ [b])
        rw [e']
      rw [e1, e2, ih]
      by_cases hb : b = c
      · simp [hb]
      · cases r with
        | nil => simp [hb]
        | cons y r => simp [hb]
theorem splitC_count (c : UInt8) : ∀ l, (splitC c l).length = (l.filter (· == c)).length + 1
  | [] => rfl
  | a :: l => by
    have ih := splitC_count c l
    by_cases ha : a = c
    · rw [splitC, if_pos ha, List.length_cons, ih]
      simp [ha]
    · obtain ⟨x, r, e⟩ := splitC_ne c l
      rw [splitC, if_neg ha, e]
      rw [e] at ih
      simp only [List.length_cons] at ih ⊢
      simp [ha, ih]
theorem splitC_take (c : UInt8) (l : List UInt8) (k : Nat) : (splitC c (l.take k)).length ≤ (splitC c l).length := by
  rw [splitC_count, splitC_count]
  have := ((List.take_sublist k l).filter (· == c)).length_le
  omega
/-- parts, as cells -/
def strs (P : List (List UInt8)) : List Value := P.map fun x => .string (bsA x)
theorem strs_len (P : List (List UInt8)) : (strs P).length = P.length := List.length_map ..
theorem strs_app (P R : List (List UInt8)) : strs (P ++ R) = strs P ++ strs R := List.map_append ..
theorem info9 : (Tryd.prog.info? 9).map (fun i => (i.zero, i.size, i.bytes)) = some (some (.string ⟨#[]⟩), 1, 16) := by kernel_rfl
theorem St.rowCellSet {I : Img} {M : List Res} {w : World} {e s n c g : Nat} {xs : List Value} (h : St I (row e s (.slice (some ⟨g, 0, none⟩) n c) n xs :: M) w) (k : Nat) (v : Value) (h0 : 0 < xs.length) :
    St I (row e s (.slice (some ⟨g, 0, none⟩) n c) n (xs.set k v) :: M) (w.setCell ⟨g, k, none⟩ v) := by
  obtain ⟨g', cur, e1, _, hlc, hcm, hcs, hct, hs⟩ := h.rowBk h0
  injection e1 with e1
  injection e1 with e1
  subst e1
  exact (hs.set k v).bkRow hlc hcm (by rw [Array.size_setIfInBounds]; exact hcs) (by rw [Array.toList_setIfInBounds, List.take_set, hct])
theorem lit_strs {w : World} (P : List (List UInt8)) : Src Tryd.prog 1 46 (.slice (some ⟨w.heap.size, 0, none⟩) P.length P.length) P.length (strs P) (w.alloc (.cells (strs P).toArray 9)) := by
  refine Src.ofSlice _ Tryd.underlying46 _ _ _ _ (by rw [strs_len, Nat.mul_one]) (fun j u hj => ?_) (fun u hu => by
    obtain ⟨x, _, rfl⟩ := List.mem_map.1 hu
    rfl)
  rw [add_at, Nat.zero_add, World.cell?_alloc_new]
  simpa using hj
set_option maxRecDepth 8000 in
set_option maxHeartbeats 2000000 in
theorem pointsP (I : Img) (M : List Res) (w : World) (s : ByteArray) (hst : St I M w) (hs : s.size ≤ 300) :
    Calls Tryd.prog 21 #[.string s] w (Ret I (fun v J M' => M' = M ∧ ∃ (P : List (List UInt8)) (g c : Nat), v = .slice (some ⟨g, 0, none⟩) P.length c ∧ (P = splitC 46 (ls s) ∨ (P.length = 7 ∧ 7 ≤ (splitC 46 (ls s)).length)) ∧ (∀ x ∈ P, x.length ≤ 300) ∧ ∀ (j : Nat) x, P[j]? = some x → J.cell? ⟨g, j, none⟩ = some (.string (bsA x)))) := by
  obtain ⟨i0, hi, hz0, hz1, hz2⟩ : ∃ i, Tryd.prog.info? 9 = some i ∧ i.zero = some (.string ⟨#[]⟩) ∧ i.size = 1 ∧ i.bytes = 16 := by
    obtain ⟨i, h1, h2⟩ := Option.map_eq_some_iff.1 info9
    simp only [Prod.mk.injEq] at h2
    exact ⟨i, h1, h2.1, h2.2.1, h2.2.2⟩
  have hs0 : St I (row 9 1 (.slice (some ⟨w.heap.size, 0, none⟩) 1 1) 1 (strs (splitC 46 ((ls s).take 0))) :: M) (w.alloc (.cells #[.string ⟨#[]⟩] 9)) :=
    St.fresh hst (hst.grow _) (World.ownsRow_lit (base := w.heap.size) (e := 9) (size := 1) w #[.string ⟨#[]⟩] 1 (Nat.le_refl _) (by decide) rfl)
  have HS := Lib.hid hs0
  clear hs0 hst
  go_enter Tryd.func21, Tryd.ntmps21
  go_upto_block 0 with fail
  generalize World.alloc _ _ = W0 at HS ⊢
  go_wp2_with fail
  go_loopw [3, 4] (fun ov kv wr => ∃ (k n : Nat) (A : Option Addr) (c : Nat), k ≤ s.size ∧ n ≤ 7 ∧ kv = .int .i64 k ∧ ov = .slice A n c ∧ Hid (n = (splitC 46 ((ls s).take k)).length ∧ St I (row 9 1 (.slice A n c) n (strs (splitC 46 ((ls s).take k))) :: M) wr)) (fun _ kv _ => s.size - (intOf kv).toNat)
  case atStart => exact ⟨0, 1, _, 1, Nat.zero_le _, by omega, rfl, rfl, Lib.hid ⟨rfl, HS.out⟩⟩
  case round =>
    obtain ⟨k, n, A, c, hk, hn7, rfl, rfl, HK⟩ := hrel
    clear HS
    have hpl : ∀ x ∈ splitC 46 ((ls s).take k), x.length ≤ k := fun x hx => by
      have := split_len 46 _ x hx
      rw [List.length_take] at this
      omega
    have HPL := Lib.hid hpl
    clear hpl
    have hends : (k = s.size ∨ (k < s.size ∧ n = 7)) → ∃ (J : Img), Hid (I.le J ∧ St J M wr ∧ ∃ (P : List (List UInt8)) (g : Nat), A = some ⟨g, 0, none⟩ ∧ n = P.length ∧ (P = splitC 46 (ls s) ∨ (P.length = 7 ∧ 7 ≤ (splitC 46 (ls s)).length)) ∧ (∀ x ∈ P, x.length ≤ 300) ∧ ∀ (j : Nat) x, P[j]? = some x → J.cell? ⟨g, j, none⟩ = some (.string (bsA x))) := fun h => by
      obtain ⟨J, h1, h2, h3⟩ := HK.out.2.freezeRow
      obtain ⟨x0, r0, e0⟩ := splitC_ne 46 ((ls s).take k)
      obtain ⟨g, o, e1, e2⟩ := h3 (by rw [strs_len, e0]; simp)
      have hrow : wr.ownsRow 0 9 1 (.slice A n c) n (strs (splitC 46 ((ls s).take k))) := HK.out.2.head
      have ho : o = 0 := by
        rcases hrow.2 with ⟨hv, hn⟩ | ⟨g', cap, cur, hv, _⟩
        · injection hv with hv1 _ _
          rw [e1] at hv1
          cases hv1
        · injection hv with hv1 _ _
          rw [e1] at hv1
          injection hv1 with hv1
          injection hv1
      subst ho
      refine ⟨J, Lib.hid ⟨h1, h2, splitC 46 ((ls s).take k), g, e1, HK.out.1, ?_, fun x hx => Nat.le_trans (HPL.out x hx) (by omega), fun j x hj => ?_⟩⟩
      · rcases h with h | ⟨_, h⟩
        · left
          rw [List.take_of_length_le (by rw [ls_len]; omega)]
        · right
          have := splitC_take 46 (ls s) k
          have := HK.out.1
          exact ⟨by omega, by omega⟩
      · have hjl : j < (splitC 46 ((ls s).take k)).length := (List.getElem?_eq_some_iff.1 hj).1
        have := e2 j (by rw [strs_len]; exact hjl)
        rw [Nat.zero_add] at this
        rw [this]
        have hj2 : (splitC 46 ((ls s).take k))[j] = x := by rw [List.getElem?_eq_getElem hjl] at hj; injection hj
        simp [strs, hj2]
    by_cases hlt : k < s.size
    rotate_left
    · obtain ⟨J, HE⟩ := hends (.inl (by omega))
      obtain rfl : k = s.size := by omega
      clear hends hlt HK
      go_wp2
      go_ret
      obtain ⟨h1, h2, P, g, rfl, rfl, h5⟩ := HE.out
      exact Ret.mk h1 h2 ⟨rfl, P, g, c, rfl, h5⟩
    by_cases h7 : n < 7
    rotate_left
    · obtain ⟨J, HE⟩ := hends (.inr ⟨hlt, by omega⟩)
      obtain rfl : n = 7 := by omega
      clear hends h7 HK
      go_wp2
      go_ret
      obtain ⟨h1, h2, P, g, rfl, h4, h5⟩ := HE.out
      exact Ret.mk h1 h2 ⟨rfl, P, g, c, by rw [← h4]; rfl, h5⟩
    clear hends
    have hlt' : (k : Int) < s.size := by omega
    have h7' : (n : Int) < 7 := by omega
    have htk : (ls s).take (k + 1) = (ls s).take k ++ [s[k]] := by
      rw [List.take_succ_eq_append_getElem (by rw [ls_len]; exact hlt)]
      rfl
    have HSN := Lib.hid (splitC_snoc 46 s[k] ((ls s).take k))
    rw [← htk] at HSN
    have HTK := Lib.hid htk
    clear htk
    by_cases hdot : s[k] = 46
    · have hd1 : ((s[k].toNat : Int) == 46) = true := by rw [hdot]; rfl
      have HE := Lib.hid (show splitC 46 ((ls s).take (k + 1)) = splitC 46 ((ls s).take k) ++ [[]] from by rw [HSN.out, if_pos hdot])
      have Hl := Lib.hid (lit_strs (w := wr) [[]])
      have Hown := Lib.hid ((show wr.ownsRow 0 9 1 (.slice A n c) n (strs (splitC 46 ((ls s).take k))) from HK.out.2.head).alloc (.cells #[.string ⟨#[]⟩] 9))
      clear hdot HSN
      go_wp2_with (at_builtin; refine wpList_append_src _ rfl _ _ 46 46 rfl 0 9 i0 (.string ⟨#[]⟩) 1 16 Tryd.underlying46 hi hz0 hz1 hz2 rfl _ _ _ rfl Hown.out _ _ _ rfl Hl.out (by unfold maxLen; simp only [List.length_cons, List.length_nil]; omega) (by simp only [List.length_cons, List.length_nil]; omega) (by simp) ?_)
      intro v6 w6 hown' hgrow hat
      have hst6 := St.grown (HK.out.2.grow (.cells #[.string ⟨#[]⟩] 9)) hgrow hown' (by simpa using hat)
      clear hown' hgrow hat
      obtain ⟨A6, c6, rfl⟩ := own_form hst6.head
      rw [← strs_app, ← HE.out] at hst6
      have HS6 := Lib.hid hst6
      have HN := Lib.hid HK.out.1
      clear hst6 HK Hl Hown
      go_wp2
      go_roundw
      case rel => exact ⟨k + 1, n + 1, A6, c6, by omega, by omega, by go_num, rfl, Lib.hid ⟨by rw [HE.out, List.length_append, ← HN.out]; rfl, HS6.out⟩⟩
      case measure => simp [intOf]; omega
    · have hd1 : ((s[k].toNat : Int) == 46) = false := by
        rw [beq_eq_false_iff_ne]
        intro e
        refine hdot (UInt8.toNat_inj.1 ?_)
        show s[k].toNat = 46
        omega
      obtain ⟨Q, last, hql⟩ : ∃ Q last, splitC 46 ((ls s).take k) = Q ++ [last] := by
        obtain ⟨x, r, e⟩ := splitC_ne 46 ((ls s).take k)
        exact ⟨(splitC 46 ((ls s).take k)).dropLast, (splitC 46 ((ls s).take k)).getLast (by rw [e]; simp), (List.dropLast_concat_getLast _).symm⟩
      have HE := Lib.hid (show splitC 46 ((ls s).take (k + 1)) = Q ++ [last ++ [s[k]]] from by rw [HSN.out, if_neg hdot, hql]; simp)
      obtain ⟨m, hm⟩ : ∃ m, m = Q.length := ⟨_, rfl⟩
      have hnm : n = m + 1 := by rw [HK.out.1, hql, hm]; simp
      have hll : last.length ≤ 300 := Nat.le_trans (HPL.out last (by rw [hql]; simp)) (by omega)
      obtain ⟨g, cur, rfl, _, hlc, hcm, hcs, hct, hsb⟩ := HK.out.2.rowBk (by rw [hql]; simp [strs])
      have HNM := Lib.hid (show m + 1 = (splitC 46 ((ls s).take k)).length from by rw [← hnm]; exact HK.out.1)
      subst hnm
      have hcm2 : cur[m]? = some (.string (bsA last)) := by
        have h1 : (cur.toList.take ((m + 1) * 1))[m]? = some (.string (bsA last)) := by
          rw [hct, hql, strs_app, List.getElem?_append_right (by rw [strs_len, hm]; exact Nat.le_refl _), strs_len, hm, Nat.sub_self]
          rfl
        rw [List.getElem?_take, if_pos (by omega)] at h1
        simpa using h1
      have HSET := Lib.hid (show (strs (splitC 46 ((ls s).take k))).set m (.string (bsA (last ++ [s[k]]))) = strs (splitC 46 ((ls s).take (k + 1))) from by
        rw [HE.out, hql, strs_app, strs_app, List.set_append_right _ _ (by rw [strs_len, hm]; exact Nat.le_refl _), strs_len, hm, Nat.sub_self]
        rfl)
      have hlen : (bsA last).size ≤ 300 := by rw [bsA_size]; exact hll
      obtain ⟨L, hL⟩ : ∃ L, L = bsA last := ⟨_, rfl⟩
      have hLE : L ++ s.extract k (k + 1) = bsA (last ++ [s[k]]) := by
        apply ls_inj
        rw [app_ls, hL]
        show last ++ (s.extract k (k + 1)).data.toList = last ++ [s[k]]
        congr 1
        rw [ByteArray.data_extract, Array.toList_extract, List.extract_eq_take_drop, show k + 1 - k = 1 by omega, List.drop_eq_getElem_cons (show k < s.data.toList.length by rw [Array.length_toList]; exact hlt)]
        rfl
      rw [← hL] at hcm2 hlen
      have HLE := Lib.hid hLE
      have hw1 : IntKind.i64.wrap (((m : Int) + 1) - 1) = (m : Int) := by rw [i64_wrap (by omega) (by omega)]; omega
      have hw2 : IntKind.i64.wrap ((k : Int) + 1) = (k : Int) + 1 := i64_wrap (by omega) (by omega)
      have hm6 : (m : Int) < (m : Int) + 1 := by omega
      have hs := HK.out.2.drew
      have hc1 : wr.drew.cell? ⟨g, m, none⟩ = some (.string L) := (Blk.cell (show Blk wr.drew g 9 cur from hsb.drew.head) m).trans hcm2
      have hf1 := Blk.frozen (show Blk wr.drew g 9 cur from hsb.drew.head) m
      have HNN := Lib.hid (show m + 1 = (splitC 46 ((ls s).take (k + 1))).length from by rw [HE.out, hm]; simp)
      have hs2 := hs.rowCellSet m (.string (L ++ s.extract k (k + 1))) (by rw [strs_len, ← HNM.out]; omega)
      rw [hLE, HSET.out, ← hLE] at hs2
      have HS9 := Lib.hid hs2
      have hex : (s.extract k (k + 1)).size = 1 := by rw [ByteArray.size_extract]; omega
      clear hs hs2 hsb hcm2 hct hcs hcm hlc HK HSN hql hL hLE hll hdot hm
      go_upto_region 7 with fail
      go_region
      go_wp2
      go_roundw
      case rel => exact ⟨k + 1, m + 1, _, c, by omega, by omega, by go_num, rfl, Lib.hid ⟨HNN.out, HS9.out⟩⟩
      case measure => simp [intOf]; omega
end Go.Proofs.YtakgdmcekhafoaaDoor
