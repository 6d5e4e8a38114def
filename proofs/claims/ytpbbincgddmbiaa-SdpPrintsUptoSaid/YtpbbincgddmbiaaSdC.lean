/- rostrumref06.attr. -/
import Derived.Test.YtpbbincgddmbiaaSdB
namespace Go.Proofs.Ytpbbincgddmbiaa
open Go.RowKit
set_option linter.unusedSimpArgs false

theorem occ_one {s : List UInt8} {c : UInt8} {j : Nat} (h : j < s.length) : Lib.occAt s [c] j = (c == s[j]) := by
  unfold Lib.occAt
  rw [List.drop_eq_getElem_cons h]
  generalize s[j] = a
  generalize s.drop (j + 1) = r
  show ((c == a) && true) = (c == a)
  rw [Bool.and_true]
theorem occ_one_short {s : List UInt8} {c : UInt8} {j : Nat} (h : s.length ≤ j) : Lib.occAt s [c] j = false := by
  unfold Lib.occAt
  rw [List.drop_of_length_le h]
  rfl
theorem cut1_hit {s : List UInt8} {c : UInt8} {i : Nat} (hno : Lib.NoOcc s [c] i) (hi : i < s.length) (ho : Lib.occAt s [c] i = true) : Lib.cut s [c] = (s.take i, s.drop (i + 1), true) := by
  have := Lib.index_hit hno (by omega) ho
  unfold Lib.cut
  rw [this, if_pos (by omega)]
  rfl
theorem cut1_miss {s : List UInt8} {c : UInt8} (h : ∀ j, Lib.occAt s [c] j = false) : Lib.cut s [c] = (s, [], false) := by
  rcases Lib.index_spec s [c] with ⟨e, _⟩ | ⟨i, _, _, ho, _⟩
  · unfold Lib.cut; rw [e, if_neg (by omega)]
  · rw [h i] at ho; cases ho
structure At where
  name : ByteArray
  value : ByteArray
/-- an attribute's text -/
def attrS (s : List UInt8) : At × Bool :=
  (⟨bsA (Lib.cut s [58]).1, bsA (Lib.cut s [58]).2.1⟩, wordB (bsA (Lib.cut s [58]).1) 1 32 && (!(Lib.cut s [58]).2.2 || valB (bsA (Lib.cut s [58]).2.1) 200))
theorem res18 (w : World) (q : Nat) (a b : ByteArray) (ok : Bool) (tmps : Array Value) (ht : tmps[2]? = some (.pointer (some ⟨q, 0, none⟩))) (h3 : tmps[3]? = some (.bool ok)) (h : Blk w q 54 #[.string a, .string b]) :
    (results Try.f18 tmps).run Try.prog w = .ok (.tuple #[.agg #[.string a, .string b], .bool ok]) w := by
  obtain ⟨c0, c1, _⟩ := Blk.two h
  simp [results, Try.results18, go_sem, ht, h3, c0, c1]
theorem k18 {w : World} {q : Nat} {a b : Value} (h : Blk w q 54 #[a, b]) : w.cell? ⟨q, 0, none⟩ = some a ∧ w.cell? ⟨q, 1, none⟩ = some b := ⟨h.cell 0, h.cell 1⟩
set_option maxRecDepth 8000 in
set_option maxHeartbeats 4000000 in
theorem attrR (I : Img) (M : List Res) (w : World) (s : ByteArray) (hst : St I M w) (hs : s.size ≤ 1000000) :
    Calls Try.prog 18 #[.string s] w (Ret I (fun v J M' => I = J ∧ v = .tuple #[.agg #[.string (attrS s.data.toList).1.name, .string (attrS s.data.toList).1.value], .bool (attrS s.data.toList).2] ∧ M' = M)) := by
  have hs1 := hst.alloc 54 #[.string ⟨#[]⟩, .string ⟨#[]⟩]
  have HS := Lib.hid hs1
  clear hst hs1
  go_enter Try.func18, Try.ntmps18
  go_upto_region 2 with fail
  go_loop [4] (fun iv => ∃ k : Nat, k ≤ s.size ∧ iv = .int .i64 k ∧ Hid (Lib.NoOcc s.data.toList [58] k)) (fun iv => s.size - (intOf iv).toNat)
  case atStart => exact ⟨0, by omega, rfl, Lib.hid (Lib.NoOcc.zero _ _)⟩
  case round =>
    obtain ⟨k, hk, rfl, hno⟩ := hrel
    by_cases hkl : k < s.size
    · have ho := occ_one (s := s.data.toList) (c := 58) (j := k) (by rw [Array.length_toList]; exact hkl)
      have he : s.data.toList[k]'(by rw [Array.length_toList]; exact hkl) = s[k] := rfl
      rw [he] at ho
      cases hb : (s[k].toNat == 58)
      · have hc : ((58 : UInt8) == s[k]) = false := by
          cases e : ((58 : UInt8) == s[k])
          · rfl
          · simp only [beq_iff_eq] at e
            rw [← e] at hb
            cases hb
        rw [hc] at ho
        have hbi : ((s[k].toNat : Int) != 58) = true := by
          simp only [beq_eq_false_iff_ne] at hb
          simp only [bne_iff_ne]
          omega
        have HN := Lib.hid (hno.out.succ ho)
        clear ho he hc hno hb
        go_wp2
        go_round
        case rel => exact ⟨k + 1, by omega, by go_num, HN⟩
        case measure => simp [intOf]; omega
      · have hc : ((58 : UInt8) == s[k]) = true := by
          simp only [beq_iff_eq] at hb ⊢
          exact UInt8.toNat_inj.1 hb.symm
        rw [hc] at ho
        have hbi : ((s[k].toNat : Int) != 58) = false := by
          simp only [beq_iff_eq] at hb
          simp only [bne_eq_false_iff_eq]
          omega
        have hcut := cut1_hit hno.out (by rw [Array.length_toList]; exact hkl) ho
        have hA : attrS s.data.toList = (⟨bsA (s.data.toList.take k), bsA (s.data.toList.drop (k + 1))⟩, wordB (bsA (s.data.toList.take k)) 1 32 && valB (bsA (s.data.toList.drop (k + 1))) 200) := by
          unfold attrS; rw [hcut]; rfl
        have hx1 : s.extract 0 k = bsA (s.data.toList.take k) := by rw [Lib.extract_eq]; rfl
        have hx2 : s.extract (k + 1) s.size = bsA (s.data.toList.drop (k + 1)) := by
          rw [Lib.extract_eq, List.take_of_length_le (by rw [List.length_drop, Array.length_toList]; exact Nat.le_refl _)]
        rw [← hx1, ← hx2] at hA
        have hz1 : (s.extract 0 k).size ≤ maxLen := by unfold maxLen; simp; omega
        have hz2 : (s.extract (k + 1) s.size).size ≤ maxLen := by unfold maxLen; simp; omega
        obtain ⟨nm, hnm⟩ : ∃ nm, nm = s.extract 0 k := ⟨_, rfl⟩
        obtain ⟨vl, hvl⟩ : ∃ vl, vl = s.extract (k + 1) s.size := ⟨_, rfl⟩
        rw [← hnm] at hA hz1
        rw [← hvl] at hA hz2
        have HA := Lib.hid hA
        have hkk : (k : Int) + 1 ≤ s.size := by omega
        have hn0 : s.extract 0 k = nm := hnm.symm
        have hv0 : s.extract (k + 1) s.size = vl := hvl.symm
        have hst2 := HS.out.alloc 54 #[.string nm, .string vl]
        rw [show (w.alloc (Obj.cells #[.string ⟨#[]⟩, .string ⟨#[]⟩] 54)).heap.size = w.heap.size + 1 from World.size_alloc _ _] at hst2
        have HT := Lib.hid hst2
        clear hc ho he hno hb hcut hA hx1 hx2 hnm hvl hst2
        go_upto_region 7 with fail
        have hs8 := HT.out
        clear HS HT hbi hkk hn0 hv0
        generalize World.alloc (World.alloc w _) _ = W8 at hs8 ⊢
        obtain ⟨hcQ, hfQ, hlQ⟩ := Blk.all (hs8.at 1 rfl)
        have hs9 := hs8.drew
        clear hs8
        obtain ⟨vb, hvb⟩ : ∃ vb, vb = valB vl 200 := ⟨_, rfl⟩
        rw [← hvb] at HA
        have HV := Lib.hid hvb
        clear hvb
        cases hw : wordB nm 1 32
        · rw [hw] at HA
          refine wp_region_held_drew (S := (fun w' => w'.cell? ⟨w.heap.size + 1, 0, none⟩ = some (.string nm) ∧ w'.cell? ⟨w.heap.size + 1, 1, none⟩ = some (.string vl))) (by kernel_rfl) (by (try dsimp only); all_goals (first | exact k18 (hs9.at 0 rfl) | exact k18 (((hs9.set1 0 _).set1 1 _).at 0 rfl))) (fun hHeld => ?_)
          refine wpAnyH_take (i := 0) (oi := _) (v := ?_) rfl (by kernel_rfl) (by kernel_rfl) (by kernel_rfl) (fun _ _ _ h => h) (Or.inl ⟨by rfl, ?_⟩) (by assumption) ?_
          rotate_left
          · (intro w hSw; (try dsimp only at hSw); go_simp; try with_reducible rfl)
          try simp only [Act.put, List.getElem_toArray, List.getElem_cons_zero, List.getElem_cons_succ, List.setIfInBounds_toArray, List.set_cons_zero, List.set_cons_succ]
          refine wpAnyH_take (i := 1) (oi := _) (v := ?_) rfl (by kernel_rfl) (by kernel_rfl) (by kernel_rfl) (fun _ _ _ h => h) (Or.inl ⟨by rfl, ?_⟩) (by assumption) ?_
          rotate_left
          · (intro w hSw; (try dsimp only at hSw); go_simp; try with_reducible rfl)
          try simp only [Act.put, List.getElem_toArray, List.getElem_cons_zero, List.getElem_cons_succ, List.setIfInBounds_toArray, List.set_cons_zero, List.set_cons_succ]
          refine wpAnyH_take (i := 2) (oi := _) (v := ?_) rfl (by kernel_rfl) (by kernel_rfl) (by kernel_rfl) (fun _ _ _ h => h) (Or.inl ⟨by rfl, ?_⟩) (by assumption) ?_
          rotate_left
          · (intro w hSw; (try dsimp only at hSw); go_simp; try with_reducible rfl)
          try simp only [Act.put, List.getElem_toArray, List.getElem_cons_zero, List.getElem_cons_succ, List.setIfInBounds_toArray, List.set_cons_zero, List.set_cons_succ]
          refine wpAnyH_ready (rs := [3]) (by kernel_rfl) (by simp) ?_
          refine AllReadyH.cons (o := _) rfl (fun K hK => ?_) AllReadyH.nil
          go_simp
          refine (wordR nm 1 32 _ hz1).mono ?_; rw [hw]; rintro e w' ⟨rfl, rfl⟩; try dsimp only
          try clear hHeld
          refine hK.out _ _ (by (try dsimp only); all_goals (first | exact k18 (hs9.at 0 rfl) | exact k18 (((hs9.set1 0 _).set1 1 _).at 0 rfl))) (fun hHeld => ?_)
          clear hK K
          try simp only [Act.put, List.getElem_toArray, List.getElem_cons_zero, List.getElem_cons_succ, List.setIfInBounds_toArray, List.set_cons_zero, List.set_cons_succ]
          refine wpAnyH_take (i := 4) (oi := _) (v := ?_) rfl (by kernel_rfl) (by kernel_rfl) (by kernel_rfl) (fun _ _ _ h => h) (Or.inl ⟨by rfl, ?_⟩) (by assumption) ?_
          rotate_left
          · (intro w hSw; (try dsimp only at hSw); go_simp; try with_reducible rfl)
          try simp only [Act.put, List.getElem_toArray, List.getElem_cons_zero, List.getElem_cons_succ, List.setIfInBounds_toArray, List.set_cons_zero, List.set_cons_succ]
          refine wpAnyH_take (i := 5) (oi := _) (v := undef) rfl (by kernel_rfl) (by kernel_rfl) (by kernel_rfl) (fun _ _ _ h => h) (Or.inr ⟨by rfl, rfl⟩) (by assumption) ?_
          try simp only [Act.put, List.getElem_toArray, List.getElem_cons_zero, List.getElem_cons_succ, List.setIfInBounds_toArray, List.set_cons_zero, List.set_cons_succ]
          refine wpAnyH_take (i := 6) (oi := _) (v := undef) rfl (by kernel_rfl) (by kernel_rfl) (by kernel_rfl) (fun _ _ _ h => h) (Or.inr ⟨by rfl, rfl⟩) (by assumption) ?_
          try simp only [Act.put, List.getElem_toArray, List.getElem_cons_zero, List.getElem_cons_succ, List.setIfInBounds_toArray, List.set_cons_zero, List.set_cons_succ]
          refine wpAnyH_take (i := 7) (oi := _) (v := undef) rfl (by kernel_rfl) (by kernel_rfl) (by kernel_rfl) (fun _ _ _ h => h) (Or.inr ⟨by rfl, rfl⟩) (by assumption) ?_
          try simp only [Act.put, List.getElem_toArray, List.getElem_cons_zero, List.getElem_cons_succ, List.setIfInBounds_toArray, List.set_cons_zero, List.set_cons_succ]
          refine wpAnyH_take (i := 8) (oi := _) (v := ?_) rfl (by kernel_rfl) (by kernel_rfl) (by kernel_rfl) (fun _ _ _ h => h) (Or.inl ⟨by rfl, ?_⟩) (by assumption) ?_
          rotate_left
          · (intro w hSw; (try dsimp only at hSw); go_simp; try with_reducible rfl)
          try simp only [Act.put, List.getElem_toArray, List.getElem_cons_zero, List.getElem_cons_succ, List.setIfInBounds_toArray, List.set_cons_zero, List.set_cons_succ]
          refine wpAnyH_ready (rs := [9]) (by kernel_rfl) (by simp) ?_
          refine AllReadyH.cons (o := _) rfl (fun K hK => ?_) AllReadyH.nil
          go_simp
          try clear hHeld
          refine hK.out _ _ (by (try dsimp only); all_goals (first | exact k18 (hs9.at 0 rfl) | exact k18 (((hs9.set1 0 _).set1 1 _).at 0 rfl))) (fun hHeld => ?_)
          clear hK K
          try simp only [Act.put, List.getElem_toArray, List.getElem_cons_zero, List.getElem_cons_succ, List.setIfInBounds_toArray, List.set_cons_zero, List.set_cons_succ]
          refine wpAnyH_take (i := 10) (oi := _) (v := ?_) rfl (by kernel_rfl) (by kernel_rfl) (by kernel_rfl) (fun _ _ _ h => h) (Or.inl ⟨by rfl, ?_⟩) (by assumption) ?_
          rotate_left
          · (intro w hSw; (try dsimp only at hSw); go_simp; try with_reducible rfl)
          try simp only [Act.put, List.getElem_toArray, List.getElem_cons_zero, List.getElem_cons_succ, List.setIfInBounds_toArray, List.set_cons_zero, List.set_cons_succ]
          refine wpAnyH_done (by kernel_rfl) ?_ _
          go_wp2
          have hs3 := (hs9.set1 0 (.string nm)).set1 1 (.string vl)
          refine bodyPost_ret (res18 _ _ nm vl false _ rfl rfl (hs3.at 1 rfl)) rfl ?_
          exact Ret.mk (.refl I) hs3.drop.drop ⟨rfl, by rw [HA.out]; rfl, rfl⟩
        · rw [hw] at HA
          refine wp_region_held_drew (S := (fun w' => w'.cell? ⟨w.heap.size + 1, 0, none⟩ = some (.string nm) ∧ w'.cell? ⟨w.heap.size + 1, 1, none⟩ = some (.string vl))) (by kernel_rfl) (by (try dsimp only); all_goals (first | exact k18 (hs9.at 0 rfl) | exact k18 (((hs9.set1 0 _).set1 1 _).at 0 rfl))) (fun hHeld => ?_)
          refine wpAnyH_take (i := 0) (oi := _) (v := ?_) rfl (by kernel_rfl) (by kernel_rfl) (by kernel_rfl) (fun _ _ _ h => h) (Or.inl ⟨by rfl, ?_⟩) (by assumption) ?_
          rotate_left
          · (intro w hSw; (try dsimp only at hSw); go_simp; try with_reducible rfl)
          try simp only [Act.put, List.getElem_toArray, List.getElem_cons_zero, List.getElem_cons_succ, List.setIfInBounds_toArray, List.set_cons_zero, List.set_cons_succ]
          refine wpAnyH_take (i := 1) (oi := _) (v := ?_) rfl (by kernel_rfl) (by kernel_rfl) (by kernel_rfl) (fun _ _ _ h => h) (Or.inl ⟨by rfl, ?_⟩) (by assumption) ?_
          rotate_left
          · (intro w hSw; (try dsimp only at hSw); go_simp; try with_reducible rfl)
          try simp only [Act.put, List.getElem_toArray, List.getElem_cons_zero, List.getElem_cons_succ, List.setIfInBounds_toArray, List.set_cons_zero, List.set_cons_succ]
          refine wpAnyH_take (i := 2) (oi := _) (v := ?_) rfl (by kernel_rfl) (by kernel_rfl) (by kernel_rfl) (fun _ _ _ h => h) (Or.inl ⟨by rfl, ?_⟩) (by assumption) ?_
          rotate_left
          · (intro w hSw; (try dsimp only at hSw); go_simp; try with_reducible rfl)
          try simp only [Act.put, List.getElem_toArray, List.getElem_cons_zero, List.getElem_cons_succ, List.setIfInBounds_toArray, List.set_cons_zero, List.set_cons_succ]
          refine wpAnyH_ready (rs := [3]) (by kernel_rfl) (by simp) ?_
          refine AllReadyH.cons (o := _) rfl (fun K hK => ?_) AllReadyH.nil
          go_simp
          refine (wordR nm 1 32 _ hz1).mono ?_; rw [hw]; rintro e w' ⟨rfl, rfl⟩; try dsimp only
          try clear hHeld
          refine hK.out _ _ (by (try dsimp only); all_goals (first | exact k18 (hs9.at 0 rfl) | exact k18 (((hs9.set1 0 _).set1 1 _).at 0 rfl))) (fun hHeld => ?_)
          clear hK K
          try simp only [Act.put, List.getElem_toArray, List.getElem_cons_zero, List.getElem_cons_succ, List.setIfInBounds_toArray, List.set_cons_zero, List.set_cons_succ]
          refine wpAnyH_take (i := 4) (oi := _) (v := ?_) rfl (by kernel_rfl) (by kernel_rfl) (by kernel_rfl) (fun _ _ _ h => h) (Or.inl ⟨by rfl, ?_⟩) (by assumption) ?_
          rotate_left
          · (intro w hSw; (try dsimp only at hSw); go_simp; try with_reducible rfl)
          try simp only [Act.put, List.getElem_toArray, List.getElem_cons_zero, List.getElem_cons_succ, List.setIfInBounds_toArray, List.set_cons_zero, List.set_cons_succ]
          refine wpAnyH_take (i := 5) (oi := _) (v := ?_) rfl (by kernel_rfl) (by kernel_rfl) (by kernel_rfl) (fun _ _ _ h => h) (Or.inl ⟨by rfl, ?_⟩) (by assumption) ?_
          rotate_left
          · (intro w hSw; (try dsimp only at hSw); go_simp; try with_reducible rfl)
          try simp only [Act.put, List.getElem_toArray, List.getElem_cons_zero, List.getElem_cons_succ, List.setIfInBounds_toArray, List.set_cons_zero, List.set_cons_succ]
          refine wpAnyH_take (i := 6) (oi := _) (v := ?_) rfl (by kernel_rfl) (by kernel_rfl) (by kernel_rfl) (fun _ _ _ h => h) (Or.inl ⟨by rfl, ?_⟩) (by assumption) ?_
          rotate_left
          · (intro w hSw; (try dsimp only at hSw); go_simp; try with_reducible rfl)
          try simp only [Act.put, List.getElem_toArray, List.getElem_cons_zero, List.getElem_cons_succ, List.setIfInBounds_toArray, List.set_cons_zero, List.set_cons_succ]
          refine wpAnyH_ready (rs := [7]) (by kernel_rfl) (by simp) ?_
          refine AllReadyH.cons (o := _) rfl (fun K hK => ?_) AllReadyH.nil
          go_simp
          refine (valueR vl 200 _ hz2).mono ?_; rw [← HV.out]; rintro e w' ⟨rfl, rfl⟩; try dsimp only
          try clear hHeld
          refine hK.out _ _ (by (try dsimp only); all_goals (first | exact k18 (hs9.at 0 rfl) | exact k18 (((hs9.set1 0 _).set1 1 _).at 0 rfl))) (fun hHeld => ?_)
          clear hK K
          try simp only [Act.put, List.getElem_toArray, List.getElem_cons_zero, List.getElem_cons_succ, List.setIfInBounds_toArray, List.set_cons_zero, List.set_cons_succ]
          refine wpAnyH_take (i := 8) (oi := _) (v := ?_) rfl (by kernel_rfl) (by kernel_rfl) (by kernel_rfl) (fun _ _ _ h => h) (Or.inl ⟨by rfl, ?_⟩) (by assumption) ?_
          rotate_left
          · (intro w hSw; (try dsimp only at hSw); go_simp; try with_reducible rfl)
          try simp only [Act.put, List.getElem_toArray, List.getElem_cons_zero, List.getElem_cons_succ, List.setIfInBounds_toArray, List.set_cons_zero, List.set_cons_succ]
          refine wpAnyH_ready (rs := [9]) (by kernel_rfl) (by simp) ?_
          refine AllReadyH.cons (o := _) rfl (fun K hK => ?_) AllReadyH.nil
          go_simp
          try clear hHeld
          refine hK.out _ _ (by (try dsimp only); all_goals (first | exact k18 (hs9.at 0 rfl) | exact k18 (((hs9.set1 0 _).set1 1 _).at 0 rfl))) (fun hHeld => ?_)
          clear hK K
          try simp only [Act.put, List.getElem_toArray, List.getElem_cons_zero, List.getElem_cons_succ, List.setIfInBounds_toArray, List.set_cons_zero, List.set_cons_succ]
          refine wpAnyH_take (i := 10) (oi := _) (v := ?_) rfl (by kernel_rfl) (by kernel_rfl) (by kernel_rfl) (fun _ _ _ h => h) (Or.inl ⟨by rfl, ?_⟩) (by assumption) ?_
          rotate_left
          · (intro w hSw; (try dsimp only at hSw); go_simp; try with_reducible rfl)
          try simp only [Act.put, List.getElem_toArray, List.getElem_cons_zero, List.getElem_cons_succ, List.setIfInBounds_toArray, List.set_cons_zero, List.set_cons_succ]
          refine wpAnyH_done (by kernel_rfl) ?_ _
          go_wp2
          have hs3 := (hs9.set1 0 (.string nm)).set1 1 (.string vl)
          refine bodyPost_ret (res18 _ _ nm vl vb _ rfl rfl (hs3.at 1 rfl)) rfl ?_
          exact Ret.mk (.refl I) hs3.drop.drop ⟨rfl, by rw [HA.out]; rfl, rfl⟩
    · have hk2 : (s.size : Int) ≤ k := by omega
      have hks : k = s.size := by omega
      have hcut := cut1_miss (s := s.data.toList) (c := 58) (fun j => by
        by_cases hj : j < k
        · exact hno.out j hj
        · exact occ_one_short (by rw [Array.length_toList]; show s.size ≤ j; omega))
      have hA : attrS s.data.toList = (⟨s, ⟨#[]⟩⟩, wordB s 1 32) := by
        unfold attrS
        rw [hcut, show bsA s.data.toList = s from Lib.mk_data s]
        simp
      have HA := Lib.hid hA
      have hz1 : s.size ≤ maxLen := by unfold maxLen; omega
      have hn0 : s.extract 0 k = s := by rw [hks, Lib.extract_eq, List.drop_zero, Nat.sub_zero, List.take_of_length_le (by rw [Array.length_toList]; exact Nat.le_refl _)]
      have hst2 := HS.out.alloc 54 #[.string s, .string ⟨#[]⟩]
      rw [show (w.alloc (Obj.cells #[.string ⟨#[]⟩, .string ⟨#[]⟩] 54)).heap.size = w.heap.size + 1 from World.size_alloc _ _] at hst2
      have HT := Lib.hid hst2
      clear hno hcut hA hst2 hkl hks
      go_upto_region 8 with fail
      have hs8 := HT.out
      clear HS HT hn0 hk2
      generalize World.alloc (World.alloc w _) _ = W8 at hs8 ⊢
      obtain ⟨hcQ, hfQ, hlQ⟩ := Blk.all (hs8.at 1 rfl)
      have hs9 := hs8.drew
      clear hs8
      obtain ⟨wb, hwb⟩ : ∃ wb, wb = wordB s 1 32 := ⟨_, rfl⟩
      rw [← hwb] at HA
      have HV := Lib.hid hwb
      clear hwb
      refine wp_region_held_drew (S := (fun w' => w'.cell? ⟨w.heap.size + 1, 0, none⟩ = some (.string s) ∧ w'.cell? ⟨w.heap.size + 1, 1, none⟩ = some (.string ⟨#[]⟩))) (by kernel_rfl) (by (try dsimp only); all_goals (first | exact k18 (hs9.at 0 rfl) | exact k18 (((hs9.set1 0 _).set1 1 _).at 0 rfl))) (fun hHeld => ?_)
      refine wpAnyH_take (i := 0) (oi := _) (v := ?_) rfl (by kernel_rfl) (by kernel_rfl) (by kernel_rfl) (fun _ _ _ h => h) (Or.inl ⟨by rfl, ?_⟩) (by assumption) ?_
      rotate_left
      · (intro w hSw; (try dsimp only at hSw); go_simp; try with_reducible rfl)
      try simp only [Act.put, List.getElem_toArray, List.getElem_cons_zero, List.getElem_cons_succ, List.setIfInBounds_toArray, List.set_cons_zero, List.set_cons_succ]
      refine wpAnyH_take (i := 1) (oi := _) (v := ?_) rfl (by kernel_rfl) (by kernel_rfl) (by kernel_rfl) (fun _ _ _ h => h) (Or.inl ⟨by rfl, ?_⟩) (by assumption) ?_
      rotate_left
      · (intro w hSw; (try dsimp only at hSw); go_simp; try with_reducible rfl)
      try simp only [Act.put, List.getElem_toArray, List.getElem_cons_zero, List.getElem_cons_succ, List.setIfInBounds_toArray, List.set_cons_zero, List.set_cons_succ]
      refine wpAnyH_take (i := 2) (oi := _) (v := ?_) rfl (by kernel_rfl) (by kernel_rfl) (by kernel_rfl) (fun _ _ _ h => h) (Or.inl ⟨by rfl, ?_⟩) (by assumption) ?_
      rotate_left
      · (intro w hSw; (try dsimp only at hSw); go_simp; try with_reducible rfl)
      try simp only [Act.put, List.getElem_toArray, List.getElem_cons_zero, List.getElem_cons_succ, List.setIfInBounds_toArray, List.set_cons_zero, List.set_cons_succ]
      refine wpAnyH_ready (rs := [3]) (by kernel_rfl) (by simp) ?_
      refine AllReadyH.cons (o := _) rfl (fun K hK => ?_) AllReadyH.nil
      go_simp
      refine (wordR s 1 32 _ hz1).mono ?_; rw [← HV.out]; rintro e w' ⟨rfl, rfl⟩; try dsimp only
      try clear hHeld
      refine hK.out _ _ (by (try dsimp only); all_goals (first | exact k18 (hs9.at 0 rfl) | exact k18 (((hs9.set1 0 _).set1 1 _).at 0 rfl))) (fun hHeld => ?_)
      clear hK K
      try simp only [Act.put, List.getElem_toArray, List.getElem_cons_zero, List.getElem_cons_succ, List.setIfInBounds_toArray, List.set_cons_zero, List.set_cons_succ]
      refine wpAnyH_ready (rs := [4]) (by kernel_rfl) (by simp) ?_
      refine AllReadyH.cons (o := _) rfl (fun K hK => ?_) AllReadyH.nil
      go_simp
      try clear hHeld
      refine hK.out _ _ (by (try dsimp only); all_goals (first | exact k18 (hs9.at 0 rfl) | exact k18 (((hs9.set1 0 _).set1 1 _).at 0 rfl))) (fun hHeld => ?_)
      clear hK K
      try simp only [Act.put, List.getElem_toArray, List.getElem_cons_zero, List.getElem_cons_succ, List.setIfInBounds_toArray, List.set_cons_zero, List.set_cons_succ]
      refine wpAnyH_take (i := 5) (oi := _) (v := ?_) rfl (by kernel_rfl) (by kernel_rfl) (by kernel_rfl) (fun _ _ _ h => h) (Or.inl ⟨by rfl, ?_⟩) (by assumption) ?_
      rotate_left
      · (intro w hSw; (try dsimp only at hSw); go_simp; try with_reducible rfl)
      try simp only [Act.put, List.getElem_toArray, List.getElem_cons_zero, List.getElem_cons_succ, List.setIfInBounds_toArray, List.set_cons_zero, List.set_cons_succ]
      refine wpAnyH_done (by kernel_rfl) ?_ _
      go_wp2
      have hs3 := (hs9.set1 0 (.string s)).set1 1 (.string ⟨#[]⟩)
      refine bodyPost_ret (res18 _ _ s ⟨#[]⟩ wb _ rfl rfl (hs3.at 1 rfl)) rfl ?_
      exact Ret.mk (.refl I) hs3.drop.drop ⟨rfl, by rw [HA.out], rfl⟩
end Go.Proofs.Ytpbbincgddmbiaa
