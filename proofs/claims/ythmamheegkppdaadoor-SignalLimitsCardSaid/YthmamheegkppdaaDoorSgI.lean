/- rostrumref24.Parse: the walk. -/
import Derived.Test.YthmamheegkppdaaDoorSgH
import Derived.BigRegion
namespace Go.Proofs.YthmamheegkppdaaDoor
open Go.RowKit
set_option linter.unusedSimpArgs false

theorem res12 (w : World) (q : Nat) (a b v : Value) (n : Int) (tmps : Array Value) (ht : tmps[2]? = some (.pointer (some ⟨q, 0, none⟩))) (h3 : tmps[3]? = some (.int .i64 n)) (h : Blk w q 24 #[a, v, b]) :
    (results Tryd.f12 tmps).run Tryd.prog w = .ok (.tuple #[.agg #[a, v, b], .int .i64 n]) w := by
  obtain ⟨c0, c1, c2, _⟩ := Blk.three h
  simp [results, Tryd.results12, go_sem, ht, h3, c0, c1, c2]
def WR (I : Img) (M : List Res) (r : Nat) (l : List UInt8) (i : Nat) (v : Value) (w : World) : Prop :=
  (∀ b ∈ l.take i, b ≠ 10) ∧ ∃ (A : Option Addr) (c : Nat), v = .slice A (splitC 32 (l.take i)).length c ∧ St I (row 9 1 (.slice A (splitC 32 (l.take i)).length c) (splitC 32 (l.take i)).length (strs ((splitC 32 (l.take i)).map bsA)) :: bk r 24 zeroM :: M) w
theorem take_snoc' {l : List UInt8} {i : Nat} (h : i < l.length) : l.take (i + 1) = l.take i ++ [l[i]] := List.take_succ_eq_append_getElem h
theorem no_next {l : List UInt8} {i : Nat} (h : i < l.length) (h0 : ∀ b ∈ l.take i, b ≠ 10) (hb : l[i] ≠ 10) : ∀ b ∈ l.take (i + 1), b ≠ 10 := by
  intro b hbm
  rw [take_snoc' h] at hbm
  rcases List.mem_append.1 hbm with h1 | h1
  · exact h0 b h1
  · obtain rfl := List.mem_singleton.1 h1
    exact hb
set_option maxRecDepth 100000 in
set_option maxHeartbeats 4000000 in
theorem parseRef (I : Img) (M : List Res) (w : World) (s : ByteArray) (hst : St I M w) (hs : s.size ≤ maxLen) :
    Calls Tryd.prog 12 #[.string s] w (Ret I (fun v J M' => M' = M ∧ ParsedAs J (parseM (ls s)) v)) := by
  have hr := hst.alloc 24 zeroM
  obtain ⟨r, hrr⟩ : ∃ r, r = w.heap.size := ⟨_, rfl⟩
  rw [← hrr] at hr
  clear hst
  go_enter Tryd.func12, Tryd.ntmps12
  go_upto_region 1 with fail
  rw [← hrr]
  clear hrr
  change St I _ (w.alloc (.cells #[.string ⟨#[]⟩, .slice none 0 0, .string ⟨#[]⟩] 24)) at hr
  generalize World.alloc _ _ = W at hr ⊢
  by_cases hl : 9192 < s.size
  · have hl' : (9192 : Int) < s.size := by omega
    have HE := Lib.hid (show parseM (ls s) = (msg0, 3) from by unfold parseM; rw [if_pos (by rw [ls_len]; exact hl)])
    obtain ⟨y0, y1, y2, f0, f1, f2, -⟩ := Blk.three (show Blk W r 24 #[.string ⟨#[]⟩, .slice none 0 0, .string ⟨#[]⟩] from hr.head)
    have HS := Lib.hid (show St I (bk r 24 zeroM :: M) _ from ((hr.set 0 (.string ⟨#[]⟩)).set 1 (.slice none 0 0)).set 2 (.string ⟨#[]⟩))
    clear hl hr
    go_wp2; refine bodyPost_ret (res12 _ _ _ _ _ _ _ rfl rfl HS.out.head) rfl ?_; exact Ret.mk (.refl I) HS.out.drop ⟨rfl, by rw [HE.out]; exact ⟨none, 0, rfl, Cells.nil _ _⟩⟩
  have hl' : (s.size : Int) ≤ 9192 := by omega
  have HL := Lib.hid (show ¬ 9192 < (ls s).length by rw [ls_len]; exact hl)
  have HSZ := Lib.hid hl'
  have hs1 := St.fresh hr (hr.grow (.cells #[.string ⟨#[]⟩] 9)) (World.ownsRow_lit (base := W.heap.size) (e := 9) (size := 1) W #[.string ⟨#[]⟩] 1 (Nat.le_refl _) (by decide) rfl)
  have HW := Lib.hid (show WR I M r (ls s) 0 (.slice (some ⟨W.heap.size, 0, none⟩) 1 1) (W.alloc (.cells #[.string ⟨#[]⟩] 9)) from ⟨fun b hb => by simp at hb, some ⟨W.heap.size, 0, none⟩, 1, rfl, hs1⟩)
  clear hl hr hs1
  go_upto_block 0 with fail
  clear hl'
  go_wp2_with fail
  go_loopw [4, 5] (fun wv iv wr => ∃ i : Nat, i ≤ s.size ∧ i ≤ 1001 ∧ iv = .int .i64 i ∧ Hid (WR I M r (ls s) i wv wr)) (fun _ iv _ => s.size - (intOf iv).toNat)
  case atStart => exact ⟨0, Nat.zero_le _, by omega, rfl, HW⟩
  case round =>
    obtain ⟨i, hi, hi2, rfl, HR⟩ := hrel
    clear HW
    by_cases hlt : i < s.size
    rotate_left
    · obtain rfl : i = s.size := by omega
      obtain ⟨hno, A, c, rfl, hst⟩ := HR.out
      have HE := Lib.hid (show parseM (ls s) = (msg0, 2) from parse_end (by rwa [List.take_of_length_le (by rw [ls_len]; exact Nat.le_refl _)] at hno) HL.out)
      obtain ⟨y0, y1, y2, f0, f1, f2, -⟩ := Blk.three (show Blk wr r 24 #[.string ⟨#[]⟩, .slice none 0 0, .string ⟨#[]⟩] from hst.at 1 rfl)
      have HS := Lib.hid (show St I (bk r 24 zeroM :: M) _ from ((hst.drop.set 0 (.string ⟨#[]⟩)).set 1 (.slice none 0 0)).set 2 (.string ⟨#[]⟩))
      clear HR hst hno hlt
      go_wp2; refine bodyPost_ret (res12 _ _ _ _ _ _ _ rfl rfl HS.out.head) rfl ?_; exact Ret.mk (.refl I) HS.out.drop ⟨rfl, by rw [HE.out]; exact ⟨none, 0, rfl, Cells.nil _ _⟩⟩
    have hsi : (s.size : Int) ≤ 9192 := HSZ.out
    have HSI := Lib.hid hsi
    clear hsi
    have hil : i < (ls s).length := by rw [ls_len]; exact hlt
    have hls : (ls s)[i]'hil = s[i]'hlt := rfl
    by_cases hb : s[i]'hlt = 10
    · obtain ⟨hno, A, c, rfl, hst⟩ := HR.out
      obtain ⟨hc1, hpe⟩ := parse_at hno hil (hls.trans hb) HL.out
      obtain ⟨v, a, hv⟩ := splitC_ne 32 ((ls s).take i)
      rw [hv] at hst ⊢
      obtain ⟨p1, p2⟩ := splitC_len 32 ((ls s).take i)
      rw [hv, List.length_take] at p1 p2
      have p3 : ∀ x ∈ v :: a, x.length ≤ i := fun x hx => Nat.le_trans (p2 x hx) (Nat.min_le_left _ _)
      obtain ⟨tl, htl⟩ : ∃ t, t = s.extract (i + 1) s.size := ⟨_, rfl⟩
      have htl2 : tl = bsA ((ls s).drop (i + 1)) := ls_inj (by
        rw [htl]
        show (s.extract (i + 1) s.size).data.toList = (ls s).drop (i + 1)
        rw [ByteArray.data_extract, Array.toList_extract, List.extract_eq_take_drop]
        exact List.take_of_length_le (by rw [List.length_drop, ls_len]; exact Nat.le_refl _))
      have hwm : wordsM (ls s) = ⟨bsA v, a.map bsA, tl⟩ := by
        rw [wordsM_of (v := v) (a := a) (by rw [hc1]; exact hv), hc1, htl2]
        rfl
      have tls : tl.size ≤ 9192 := by
        rw [htl2, bsA_size, List.length_drop, ls_len]
        have := HSI.out
        omega
      rw [hwm] at hpe
      have HPE := Lib.hid hpe
      have HPW := Lib.hid (show (printR ⟨bsA v, a.map bsA, tl⟩).2 = 0 → (printR ⟨bsA v, a.map bsA, tl⟩).1 = ls s from fun h => by
        have := print_words (l := ls s) (by rw [hc1]) (by rw [hwm]; exact h)
        rwa [hwm] at this)
      have HP3 := Lib.hid p3
      have HTL := Lib.hid htl
      have hal : (a.length : Int) + 1 ≤ 2000 := by rw [List.length_cons] at p1; omega
      have hal0 : 0 < (v :: a).length := by simp
      obtain ⟨g, rfl, -, hnc, -, -⟩ := own_at0 (show World.ownsRow wr 0 9 1 (.slice A (v :: a).length c) (v :: a).length _ from hst.head) hal0
      obtain ⟨J, hJ, hs3, hcells⟩ := hst.freezeRow
      have HJ := Lib.hid hJ
      have HW0 := Lib.hid (show ∀ (M : List Res) (w : World), St J M w → w.cell? ⟨g, 0, none⟩ = some (.string (bsA v)) from fun M w h => by
        obtain ⟨g', o, e, hc⟩ := hcells (by simp [strs])
        injection e with e
        injection e with e1 e2 _
        subst e1 e2
        exact h.cell (hc 0 (by simp [strs])))
      obtain ⟨A2, hA2⟩ : ∃ A, A = (if c = 1 then some (⟨g, 0, none⟩ : Addr) else some ⟨g, 1, none⟩) := ⟨_, rfl⟩
      have HA2 := Lib.hid hA2
      have HCA := Lib.hid (show Cells J A2 (strs (a.map bsA)) from by
        rw [hA2]
        split
        · rename_i h0
          have : a = [] := List.eq_nil_of_length_eq_zero (by rw [List.length_cons] at hnc; omega)
          rw [this]
          exact Cells.nil _ _
        · exact hcells.tail)
      have hb' : ((s[i]'hlt).toNat : Int) = 10 := by rw [hb]; rfl
      rw [List.length_cons] at hnc
      have hnc' : (a.length : Int) + 1 ≤ c := by omega
      have hw1 : IntKind.i64.wrap ((i : Int) + 1) = (i : Int) + 1 := IntWalk.i64_in _ (by omega)
      have hw2 : ((i : Int) + 1).toNat = i + 1 := by omega
      have hw3 : 0 ≤ (i : Int) + 1 := by omega
      have hw4 : (i : Int) + 1 ≤ s.size := by omega
      replace hs3 := hs3.drew
      clear HR hst hno hc1 hpe hv p1 p2 p3 htl htl2 hwm hcells hA2 hil hls hJ hb
      go_upto_region 8 with fail
      refine wp_region_held_drew (S := (fun w' => w'.cell? ⟨g, 0, none⟩ = some (.string (bsA v)))) (by kernel_rfl) (by (try dsimp only); first | exact HW0.out _ _ hs3 | exact HW0.out _ _ hs4 | exact HW0.out _ _ hs5) (fun hHeld => ?_)
      generalize World.drew _ = W4 at hs3 hHeld ⊢
      refine wpAnyH_take (i := 0) (oi := _) (v := ?_) rfl (by kernel_rfl) (by kernel_rfl) (by kernel_rfl) (fun _ _ _ h => h) (Or.inl ⟨by rfl, ?_⟩) (by assumption) ?_
      rotate_left
      · (intro w hSw; (try dsimp only at hSw); go_simp; try with_reducible rfl)
      try simp only [Act.put, List.getElem_toArray, List.getElem_cons_zero, List.getElem_cons_succ, List.setIfInBounds_toArray, List.set_cons_zero, List.set_cons_succ]
      refine wpAnyH_take (i := 1) (oi := _) (v := ?_) rfl (by kernel_rfl) (by kernel_rfl) (by kernel_rfl) (fun _ _ _ h => h) (Or.inl ⟨by rfl, ?_⟩) (by assumption) ?_
      rotate_left
      · (intro w hSw; (try dsimp only at hSw); go_simp; try with_reducible rfl)
      try simp only [Act.put, List.getElem_toArray, List.getElem_cons_zero, List.getElem_cons_succ, List.setIfInBounds_toArray, List.set_cons_zero, List.set_cons_succ]
      refine wpAnyH_take (i := 2) (oi := _) (v := ?_) rfl (by kernel_rfl) (by kernel_rfl) (by kernel_rfl) (fun _ _ _ h => h) (Or.inl ⟨by rfl, ?_⟩) (by assumption) ?_
      rotate_left
      · (intro w hSw; (try dsimp only at hSw); go_simp; try with_reducible rfl)
      try simp only [Act.put, List.getElem_toArray, List.getElem_cons_zero, List.getElem_cons_succ, List.setIfInBounds_toArray, List.set_cons_zero, List.set_cons_succ]
      refine wpAnyH_take (i := 3) (oi := _) (v := ?_) rfl (by kernel_rfl) (by kernel_rfl) (by kernel_rfl) (fun _ _ _ h => h) (Or.inl ⟨by rfl, ?_⟩) (by assumption) ?_
      rotate_left
      · (intro w hSw; (try dsimp only at hSw); go_simp; try with_reducible rfl)
      try simp only [Act.put, List.getElem_toArray, List.getElem_cons_zero, List.getElem_cons_succ, List.setIfInBounds_toArray, List.set_cons_zero, List.set_cons_succ]
      refine wpAnyH_take (i := 4) (oi := _) (v := ?_) rfl (by kernel_rfl) (by kernel_rfl) (by kernel_rfl) (fun _ _ _ h => h) (Or.inl ⟨by rfl, ?_⟩) (by assumption) ?_
      rotate_left
      · (intro w hSw; (try dsimp only at hSw); go_simp; rw [if_pos (by omega), ← HA2.out])
      try simp only [Act.put, List.getElem_toArray, List.getElem_cons_zero, List.getElem_cons_succ, List.setIfInBounds_toArray, List.set_cons_zero, List.set_cons_succ]
      refine wpAnyH_take (i := 5) (oi := _) (v := ?_) rfl (by kernel_rfl) (by kernel_rfl) (by kernel_rfl) (fun _ _ _ h => h) (Or.inl ⟨by rfl, ?_⟩) (by assumption) ?_
      rotate_left
      · (intro w hSw; (try dsimp only at hSw); go_simp; try with_reducible rfl)
      try simp only [Act.put, List.getElem_toArray, List.getElem_cons_zero, List.getElem_cons_succ, List.setIfInBounds_toArray, List.set_cons_zero, List.set_cons_succ]
      refine wpAnyH_take (i := 6) (oi := _) (v := ?_) rfl (by kernel_rfl) (by kernel_rfl) (by kernel_rfl) (fun _ _ _ h => h) (Or.inl ⟨by rfl, ?_⟩) (by assumption) ?_
      rotate_left
      · (intro w hSw; (try dsimp only at hSw); go_simp; try with_reducible rfl)
      try simp only [Act.put, List.getElem_toArray, List.getElem_cons_zero, List.getElem_cons_succ, List.setIfInBounds_toArray, List.set_cons_zero, List.set_cons_succ]
      refine wpAnyH_take (i := 7) (oi := _) (v := ?_) rfl (by kernel_rfl) (by kernel_rfl) (by kernel_rfl) (fun _ _ _ h => h) (Or.inl ⟨by rfl, ?_⟩) (by assumption) ?_
      rotate_left
      · (intro w hSw; (try dsimp only at hSw); go_simp; try with_reducible rfl)
      try simp only [Act.put, List.getElem_toArray, List.getElem_cons_zero, List.getElem_cons_succ, List.setIfInBounds_toArray, List.set_cons_zero, List.set_cons_succ]
      refine wpAnyH_take (i := 8) (oi := _) (v := ?_) rfl (by kernel_rfl) (by kernel_rfl) (by kernel_rfl) (fun _ _ _ h => h) (Or.inl ⟨by rfl, ?_⟩) (by assumption) ?_
      rotate_left
      · (intro w hSw; (try dsimp only at hSw); go_simp; rw [← HTL.out])
      try simp only [Act.put, List.getElem_toArray, List.getElem_cons_zero, List.getElem_cons_succ, List.setIfInBounds_toArray, List.set_cons_zero, List.set_cons_succ]
      refine wpAnyH_take (i := 9) (oi := _) (v := ?_) rfl (by kernel_rfl) (by kernel_rfl) (by kernel_rfl) (fun _ _ _ h => h) (Or.inl ⟨by rfl, ?_⟩) (by assumption) ?_
      rotate_left
      · (intro w hSw; (try dsimp only at hSw); go_simp; try with_reducible rfl)
      try simp only [Act.put, List.getElem_toArray, List.getElem_cons_zero, List.getElem_cons_succ, List.setIfInBounds_toArray, List.set_cons_zero, List.set_cons_succ]
      refine wpAnyH_ready (rs := [10]) (by kernel_rfl) (by simp) ?_
      refine (AllReadyH.cons (o := _) rfl (fun K hK => ?_) AllReadyH.nil)
      go_simp
      have hs4 := hs3.alloc 24 zeroM
      try clear hHeld
      refine hK.out _ _ (by (try dsimp only); first | exact HW0.out _ _ hs3 | exact HW0.out _ _ hs4 | exact HW0.out _ _ hs5) (fun hHeld => ?_)
      clear hK K
      try simp only [Act.put, List.getElem_toArray, List.getElem_cons_zero, List.getElem_cons_succ, List.setIfInBounds_toArray, List.set_cons_zero, List.set_cons_succ]
      refine wpAnyH_ready (rs := [11]) (by kernel_rfl) (by simp) ?_
      refine (AllReadyH.cons (o := _) rfl (fun K hK => ?_) AllReadyH.nil)
      go_simp
      have hs5 := hs3.alloc 24 #[.string (bsA v), .slice A2 a.length (c - 1), .string tl]
      clear hs4 hs3
      try clear hHeld
      refine hK.out _ _ (by (try dsimp only); first | exact HW0.out _ _ hs3 | exact HW0.out _ _ hs4 | exact HW0.out _ _ hs5) (fun hHeld => ?_)
      clear hK K
      try simp only [Act.put, List.getElem_toArray, List.getElem_cons_zero, List.getElem_cons_succ, List.setIfInBounds_toArray, List.set_cons_zero, List.set_cons_succ]
      refine wpAnyH_done (by kernel_rfl) ?_ _
      generalize World.alloc W4 _ = W5 at hs5 ⊢
      generalize W4.heap.size = y at hs5 ⊢
      clear hHeld
      obtain ⟨y0, y1, y2, -⟩ := Blk.three (show Blk W5 y 24 #[.string (bsA v), .slice A2 a.length (c - 1), .string tl] from hs5.head)
      have hlen : (a.map bsA).length = a.length := List.length_map ..
      have hpr := printRef J _ W5 A2 (c - 1) ⟨bsA v, a.map bsA, tl⟩ hs5 HCA.out ⟨by
          rw [bsA_size]
          have := HP3.out v (by simp)
          unfold maxLen; omega, by unfold maxLen; show tl.size ≤ _; omega, fun b hb => by
          obtain ⟨z, hz, rfl⟩ := List.mem_map.1 hb
          have := HP3.out z (by simp [hz])
          rw [bsA_size]
          unfold maxLen; omega, by
          show (a.map bsA).length ≤ _
          rw [hlen]; omega⟩
      simp only [hlen] at hpr
      obtain ⟨T, hT⟩ : ∃ T, T = bsA (printR ⟨bsA v, a.map bsA, tl⟩).1 := ⟨_, rfl⟩
      obtain ⟨k, hk⟩ : ∃ k, k = (printR ⟨bsA v, a.map bsA, tl⟩).2 := ⟨_, rfl⟩
      have hk01 : (k = 0 ∧ T = s) ∨ k = 1 := by
        rcases printR_cases ⟨bsA v, a.map bsA, tl⟩ with ⟨_, _, e⟩ | ⟨e, _⟩
        · exact .inl ⟨by rw [hk, e], by rw [hT, HPW.out (by rw [e])]⟩
        · exact .inr (by rw [hk, e])
      rw [← hT, ← hk] at hpr
      have HC : Hid (Calls Tryd.prog 9 #[.agg #[.string (bsA v), .slice A2 a.length (c - 1), .string tl]] W5 _) := Lib.hid hpr
      have HK := Lib.hid hk
      have HS5 := Lib.hid hs5
      clear hpr hs5 hk hT
      go_wp2_with fail
      go_at_call 9
      refine HC.out.mono ?_
      rintro e w6 ⟨_, _, _, rfl, _, hs6, rfl, rfl, rfl⟩
      clear y0 y1 y2 HC HS5
      obtain ⟨y0, y1, y2, -⟩ := Blk.three (show Blk w6 y 24 #[.string (bsA v), .slice A2 a.length (c - 1), .string tl] from hs6.head)
      obtain ⟨z0, z1, z2, f0, f1, f2, -⟩ := Blk.three (show Blk w6 r 24 #[.string ⟨#[]⟩, .slice none 0 0, .string ⟨#[]⟩] from hs6.at 1 rfl)
      have HS0 := Lib.hid (show St J (bk y 24 _ :: bk r 24 zeroM :: M) _ from ((hs6.set1 0 (.string ⟨#[]⟩)).set1 1 (.slice none 0 0)).set1 2 (.string ⟨#[]⟩))
      have HS1 := Lib.hid (show St J (bk y 24 _ :: bk r 24 #[.string (bsA v), .slice A2 a.length (c - 1), .string tl] :: M) _ from ((hs6.set1 0 (.string (bsA v))).set1 1 (.slice A2 a.length (c - 1))).set1 2 (.string tl))
      clear hs6
      rcases hk01 with ⟨rfl, rfl⟩ | rfl
      · have HE := Lib.hid (show parseM (ls T) = (⟨bsA v, a.map bsA, tl⟩, 0) from by rw [HPE.out, if_pos HK.out.symm])
        have hne : (T.toList != T.toList) = false := by simp
        go_wp2
        refine bodyPost_ret (res12 _ _ _ _ _ _ _ rfl rfl (HS1.out.at 1 rfl)) rfl ?_
        refine Ret.mk HJ.out HS1.out.drop.drop ⟨rfl, ?_⟩
        rw [HE.out]
        refine ⟨A2, c - 1, ?_, HCA.out⟩
        show _ = Value.tuple #[.agg (msgC _ (.slice A2 (a.map bsA).length (c - 1))), _]
        rw [hlen]
        rfl
      · have HE := Lib.hid (show parseM (ls s) = (msg0, 2) from by rw [HPE.out, if_neg (fun h => by have := HK.out; omega)])
        go_wp2
        refine bodyPost_ret (res12 _ _ _ _ _ _ _ rfl rfl (HS0.out.at 1 rfl)) rfl ?_
        exact Ret.mk HJ.out HS0.out.drop.drop ⟨rfl, by rw [HE.out]; exact ⟨none, 0, rfl, Cells.nil _ _⟩⟩
    · obtain ⟨hno, A, c, rfl, hst⟩ := HR.out
      have HNO := Lib.hid (no_next hil hno (by rw [hls]; exact hb))
      obtain ⟨p, x, e1, e2, e3⟩ := splitC_snoc 32 ((ls s).take i)
      have htk := take_snoc' hil
      rw [hls] at htk
      have hbn : ¬ ((s[i]'hlt).toNat : Int) = 10 := fun h => hb (by apply UInt8.toNat_inj.1; show _ = 10; omega)
      have hbn2 : (((s[i]'hlt).toNat : Int) == 10) = false := by simpa using hbn
      obtain ⟨n, hn⟩ : ∃ n, n = (splitC 32 ((ls s).take i)).length := ⟨_, rfl⟩
      have hnb : n ≤ 1002 := by
        have := (splitC_len 32 ((ls s).take i)).1
        rw [List.length_take] at this
        omega
      have hn0 : n = p.length + 1 := by rw [hn, e1]; simp
      rw [← hn] at hst ⊢
      rw [e1] at hst
      obtain ⟨g, rfl, -, hnc, hcell, hfz⟩ := own_at0 (show World.ownsRow wr 0 9 1 (.slice A n c) n _ from hst.head) (by omega)
      by_cases h32 : s[i]'hlt = 32
      · have h32' : ((s[i]'hlt).toNat : Int) = 32 := by rw [h32]; rfl
        have HS1 := Lib.hid (hst.grow (.cells #[.string ⟨#[]⟩] 9))
        have HSRC := Lib.hid (hst.litSrcV (P := Tryd.prog) (t := 22) (e := 9) (cs := #[.string ⟨#[]⟩]) (n := 1) (size := 1) rfl (by decide) Tryd.underlying22 (by simp [Value.oneCell']))
        have HNX := Lib.hid (show ∀ v' w', w'.ownsRow 0 9 1 v' (n + 1) (strs ((p ++ [x]).map bsA) ++ [.string ⟨#[]⟩]) → (wr.alloc (.cells #[.string ⟨#[]⟩] 9)).grownBy w' (Value.ownBlock (.slice (some ⟨g, 0, none⟩) n c)) → (v'.ownBlock = Value.ownBlock (.slice (some ⟨g, 0, none⟩) n c) ∨ v'.ownBlock = some (wr.alloc (.cells #[.string ⟨#[]⟩] 9)).heap.size) → WR I M r (ls s) (i + 1) v' w' from fun v' w' ho hg hat => by
          obtain ⟨A', c', rfl⟩ := own_form ho
          have hl2 : (splitC 32 ((ls s).take (i + 1))).length = n + 1 := by rw [htk, h32, e2]; simp [hn0]
          refine ⟨HNO.out, A', c', by rw [hl2], ?_⟩
          rw [hl2, htk, h32, e2]
          have := HS1.out.grown hg ho hat
          have e4 : strs ((p ++ [x] ++ [[]]).map bsA) = strs ((p ++ [x]).map bsA) ++ [.string ⟨#[]⟩] := by simp [strs]
          rw [e4]
          exact this)
        obtain ⟨i9, hi9, hq0, hq1, hq2⟩ := info_parts info9
        clear HR hno hst hcell hfz e1 e2 e3 htk hn hn0 hls h32 hb
        go_upto_region 16 with (at_builtin; (refine wpList_append_src _ rfl _ _ 22 22 rfl 0 9 i9 (.string ⟨#[]⟩) 1 16 Tryd.underlying22 hi9 hq0 hq1 hq2 rfl _ n _ rfl (HS1.out.at 0 rfl) _ 1 _ rfl HSRC.out (by unfold maxLen; omega) (by omega) (Nat.zero_le _) ?_); intro v' w' hown hgrow hat; have HR2 := Lib.hid (HNX.out v' w' hown hgrow hat); clear hown hgrow hat)
        by_cases hi1 : i = 1001
        · have h1000 : (1000 : Int) < i := by omega
          obtain ⟨hno2, A2, c2, ev, hst2⟩ := HR2.out
          have HE := Lib.hid (show parseM (ls s) = (msg0, 2) from parse_far (by rw [hi1] at hno2; exact hno2) HL.out)
          obtain ⟨y0, y1, y2, f0, f1, f2, -⟩ := Blk.three (show Blk w' r 24 #[.string ⟨#[]⟩, .slice none 0 0, .string ⟨#[]⟩] from hst2.at 1 rfl)
          have HS := Lib.hid (show St I (bk r 24 zeroM :: M) _ from ((hst2.drop.set 0 (.string ⟨#[]⟩)).set 1 (.slice none 0 0)).set 2 (.string ⟨#[]⟩))
          clear hst2 ev hno2 hi1
          go_wp2; refine bodyPost_ret (res12 _ _ _ _ _ _ _ rfl rfl HS.out.head) rfl ?_; exact Ret.mk (.refl I) HS.out.drop ⟨rfl, by rw [HE.out]; exact ⟨none, 0, rfl, Cells.nil _ _⟩⟩
        · have hi3 : (i : Int) ≤ 1000 := by omega
          go_wp2
          go_roundw
          case rel => exact ⟨i + 1, by omega, by omega, by go_num, HR2⟩
          case measure => simp [intOf]; omega
      · have h32' : (((s[i]'hlt).toNat : Int) == 32) = false := by
          rw [beq_eq_false_iff_ne]
          exact fun h => h32 (by apply UInt8.toNat_inj.1; show _ = 32; omega)
        have hc0 := hcell p.length (.string (bsA x)) (by simp [strs])
        have hf0 := hfz p.length
        obtain ⟨y, hy⟩ : ∃ y, y = bsA x ++ s.extract i (i + 1) := ⟨_, rfl⟩
        have hyl : y = bsA (x ++ [s[i]'hlt]) := by
          rw [hy]
          apply ls_inj
          rw [app_ls]
          show x ++ (s.extract i (i + 1)).data.toList = x ++ [s[i]'hlt]
          rw [ByteArray.data_extract, Array.toList_extract, List.extract_eq_take_drop, List.drop_eq_getElem_cons hil, show i + 1 - i = 1 by omega, List.take_succ_cons, List.take_zero]
          rfl
        have HR2 := Lib.hid (show WR I M r (ls s) (i + 1) (.slice (some ⟨g, 0, none⟩) n c) (wr.drew.setCell ⟨g, p.length, none⟩ (.string y)) from by
          have hl2 : (splitC 32 ((ls s).take (i + 1))).length = n := by rw [htk, e3 _ h32]; simp [hn0]
          refine ⟨HNO.out, some ⟨g, 0, none⟩, c, by rw [hl2], ?_⟩
          rw [hl2, htk, e3 _ h32]
          have := hst.drew.rowSetV p.length (.string y)
          have e4 : strs ((p ++ [x ++ [s[i]'hlt]]).map bsA) = (strs ((p ++ [x]).map bsA)).set p.length (.string y) := by
            rw [hyl]
            simp [strs]
          rw [e4]
          exact this)
        have hxs : (bsA x).size ≤ 2000 := by
          have h := (splitC_len 32 ((ls s).take i)).2 x (by rw [e1]; simp)
          rw [List.length_take] at h
          rw [bsA_size]
          omega
        have HY := Lib.hid hy
        have hw1 : IntKind.i64.wrap ((n : Int) - 1) = (p.length : Int) := by rw [show (n : Int) - 1 = (p.length : Int) by omega]; exact IntWalk.i64_in _ (by omega)
        have hw2 : IntKind.i64.wrap ((i : Int) + 1) = (i : Int) + 1 := IntWalk.i64_in _ (by omega)
        have hw3 : ((i : Int) + 1).toNat = i + 1 := by omega
        have hw4 : (i : Int) ≤ (i : Int) + 1 := by omega
        have hw5 : (i : Int) + 1 ≤ s.size := by omega
        have hw6 : (p.length : Int) < n := by omega
        have hes : (s.extract i (i + 1)).size ≤ 9192 := by rw [ByteArray.size_extract]; have := HSI.out; omega
        clear HR hno hst hcell hfz e1 e2 e3 htk hn hn0 hls h32 hb hy hyl hil
        generalize bsA x = X at hc0 HY hxs
        generalize p.length = P at hc0 hf0 hw1 hw6 HR2
        go_upto_region 15 with fail
        have hnn : ¬ 9223372036854775807 < X.size + (min (i + 1) s.size - i) := by omega
        have hy := HY.out.symm
        go_region
        have HR3 : Hid (WR I M r (ls s) (i + 1) (.slice (some ⟨g, 0, none⟩) n c) (wr.setCell ⟨g, P, none⟩ (.string y)).drew) := HR2
        clear HR2 hc0 hf0 hnn hy hw1 hw2 hw3 hw4 hw5 hw6
        generalize (wr.setCell ⟨g, P, none⟩ (.string y)).drew = W9 at HR3 ⊢
        have HR2 := HR3
        clear HR3
        by_cases hi1 : i = 1001
        · have h1000 : (1000 : Int) < i := by omega
          obtain ⟨hno2, A2, c2, ev, hst2⟩ := HR2.out
          have HE := Lib.hid (show parseM (ls s) = (msg0, 2) from parse_far (by rw [hi1] at hno2; exact hno2) HL.out)
          obtain ⟨y0, y1, y2, f0, f1, f2, -⟩ := Blk.three (show Blk W9 r 24 #[.string ⟨#[]⟩, .slice none 0 0, .string ⟨#[]⟩] from hst2.at 1 rfl)
          have HS := Lib.hid (show St I (bk r 24 zeroM :: M) _ from ((hst2.drop.set 0 (.string ⟨#[]⟩)).set 1 (.slice none 0 0)).set 2 (.string ⟨#[]⟩))
          clear hst2 ev hno2 hi1
          go_wp2; refine bodyPost_ret (res12 _ _ _ _ _ _ _ rfl rfl HS.out.head) rfl ?_; exact Ret.mk (.refl I) HS.out.drop ⟨rfl, by rw [HE.out]; exact ⟨none, 0, rfl, Cells.nil _ _⟩⟩
        · have hi3 : (i : Int) ≤ 1000 := by omega
          go_wp2
          go_roundw
          case rel => exact ⟨i + 1, by omega, by omega, by go_num, HR2⟩
          case measure => simp [intOf]; omega
end Go.Proofs.YthmamheegkppdaaDoor
