/- rostrumref06.lines. -/
import Derived.Test.YtpbbincgddmbiaaSdA
import Derived.Lib.IndexMore
namespace Go.Proofs.Ytpbbincgddmbiaa
open Go.RowKit
set_option linter.unusedSimpArgs false

abbrev crlf : List UInt8 := [13, 10]
abbrev bsA (l : List UInt8) : ByteArray := ⟨l.toArray⟩
abbrev strs (l : List (List UInt8)) : List Value := l.map fun x => Value.string (bsA x)
def linesF : Nat → List UInt8 → List (List UInt8) × Bool
  | 0, s => ([], !s.isEmpty)
  | f + 1, s => if (Lib.cut s crlf).2.2 = true then ((Lib.cut s crlf).1 :: (linesF f (Lib.cut s crlf).2.1).1, (linesF f (Lib.cut s crlf).2.1).2) else ([], !s.isEmpty)
def linesS (s : List UInt8) : List (List UInt8) × Bool := linesF s.length s
theorem occ_two {s : List UInt8} {j : Nat} (h : j + 2 ≤ s.length) : Lib.occAt s crlf j = ((s.drop j).take 2 == crlf) := by
  unfold Lib.occAt
  have e : s.drop j = s[j] :: s[j + 1] :: s.drop (j + 2) := by
    rw [List.drop_eq_getElem_cons (by omega), List.drop_eq_getElem_cons (by omega)]
  rw [e]
  generalize s[j] = a
  generalize s[j + 1] = b
  generalize s.drop (j + 2) = r
  show ((13 == a) && ((10 == b) && true)) = ([a, b] == [13, 10])
  rw [Bool.eq_iff_iff]
  simp only [Bool.and_eq_true, beq_iff_eq, List.cons.injEq, and_true]
  exact ⟨fun h => ⟨h.1.symm, h.2.symm⟩, fun h => ⟨h.1.symm, h.2.symm⟩⟩
theorem occ_short {s : List UInt8} {j : Nat} (h : s.length < j + 2) : Lib.occAt s crlf j = false := by
  cases e : Lib.occAt s crlf j
  · rfl
  · unfold Lib.occAt at e
    have := (List.isPrefixOf_iff_prefix.1 e).length_le
    rw [List.length_drop] at this
    simp [crlf] at this
    omega
theorem cut_hit {s : List UInt8} {i : Nat} (hno : Lib.NoOcc s crlf i) (ho : Lib.occAt s crlf i = true) : Lib.cut s crlf = (s.take i, s.drop (i + 2), true) ∧ i + 2 ≤ s.length := by
  have hi : i + 2 ≤ s.length := by
    apply Classical.byContradiction
    intro hn
    rw [occ_short (by omega)] at ho
    cases ho
  have := Lib.index_hit hno (by omega) ho
  unfold Lib.cut
  rw [this, if_pos (by omega)]
  exact ⟨rfl, hi⟩
theorem cut_miss {s : List UInt8} (h : ∀ j, Lib.occAt s crlf j = false) : Lib.cut s crlf = (s, [], false) := by
  rcases Lib.index_spec s crlf with ⟨e, _⟩ | ⟨i, _, _, ho, _⟩
  · unfold Lib.cut; rw [e, if_neg (by omega)]
  · rw [h i] at ho; cases ho
theorem linesF_more : ∀ (f : Nat) (s : List UInt8), s.length ≤ f → linesF (f + 1) s = linesF f s
  | 0, s, h => by
    have : s = [] := List.eq_nil_of_length_eq_zero (by omega)
    subst this
    rfl
  | f + 1, s, h => by
    conv => lhs; rw [linesF]
    conv => rhs; rw [linesF]
    split
    · rename_i hc
      have hl : (Lib.cut s crlf).2.1.length ≤ f := by
        unfold Lib.cut at hc ⊢
        split
        · rw [List.length_drop]; simp [crlf]; omega
        · rename_i hn; rw [if_neg hn] at hc; cases hc
      rw [linesF_more f _ hl]
    · rfl
theorem linesF_eq {f g : Nat} {s : List UInt8} (h : s.length ≤ f) (hg : f ≤ g) : linesF g s = linesF f s := by
  obtain ⟨d, rfl⟩ : ∃ d, g = f + d := ⟨g - f, by omega⟩
  clear hg
  induction d with
  | zero => rfl
  | succ d ih => rw [← ih]; exact linesF_more (f + d) s (by omega)
theorem linesS_hit {s : List UInt8} {i : Nat} (hno : Lib.NoOcc s crlf i) (ho : Lib.occAt s crlf i = true) : linesS s = (s.take i :: (linesS (s.drop (i + 2))).1, (linesS (s.drop (i + 2))).2) := by
  obtain ⟨hc, hi⟩ := cut_hit hno ho
  have h1 : linesS s = linesF (s.length + 1) s := (linesF_more _ _ (Nat.le_refl _)).symm
  rw [h1, linesF, hc]
  simp only [if_true]
  unfold linesS
  rw [linesF_eq (f := (s.drop (i + 2)).length) (g := s.length) (Nat.le_refl _) (by rw [List.length_drop]; omega)]
theorem linesS_miss {s : List UInt8} (h : ∀ j, Lib.occAt s crlf j = false) : linesS s = ([], !s.isEmpty) := by
  have h1 : linesS s = linesF (s.length + 1) s := (linesF_more _ _ (Nat.le_refl _)).symm
  rw [h1, linesF, cut_miss h]
  rfl
def strLen : Value → Nat
  | .string s => s.size
  | _ => 0
theorem info9 : (Try.prog.info? 9).map (fun i => (i.zero, i.size, i.bytes)) = some (some (.string ⟨#[]⟩), 1, 16) := by kernel_rfl
theorem ext_list (s : ByteArray) (a b : Nat) : (s.extract a b).toList = (s.data.toList.drop a).take (b - a) := Lib.extract_toList s a b
set_option maxHeartbeats 2000000 in
set_option maxRecDepth 8000 in
theorem linesC (I : Img) (M : List Res) (w : World) (s : ByteArray) (hst : St I M w) (hs : s.size ≤ 1000000) :
    Calls Try.prog 16 #[.string s] w (Ret I (fun v J M' => I = J ∧ ∃ A c, v = .tuple #[.slice A (linesS s.data.toList).1.length c, .bool (linesS s.data.toList).2] ∧ M' = row 9 1 (.slice A (linesS s.data.toList).1.length c) (linesS s.data.toList).1.length (strs (linesS s.data.toList).1) :: M)) := by
  have HS := Lib.hid (hst.nil (e := 9) (size := 1))
  clear hst
  go_enter Try.func16, Try.ntmps16
  go_upto_region 2 with fail
  go_loopw [0, 4] (fun sv lv wr => ∃ (cur : ByteArray) (B : Option Addr) (cb : Nat) (l : List (List UInt8)), sv = .string cur ∧ lv = .slice B l.length cb ∧ l.length + cur.size ≤ s.size ∧ Hid ((linesS s.data.toList).1 = l ++ (linesS cur.data.toList).1 ∧ (linesS s.data.toList).2 = (linesS cur.data.toList).2 ∧ St I (row 9 1 (.slice B l.length cb) l.length (strs l) :: M) wr)) (fun sv _ _ => strLen sv)
  case atStart => exact ⟨s, none, 0, [], rfl, rfl, by simp, rfl, rfl, HS.out⟩
  case round =>
    obtain ⟨cur, B, cb, l, rfl, rfl, hle, hh⟩ := hrel
    obtain ⟨h1, h2, hs1⟩ := hh.out
    have H1 := Lib.hid h1
    have H2 := Lib.hid h2
    have HS1 := Lib.hid hs1
    clear hh HS h1 h2 hs1
    go_upto_region 3 with fail
    go_loop [5] (fun iv => ∃ k : Nat, k ≤ cur.size ∧ iv = .int .i64 k ∧ Hid (Lib.NoOcc cur.data.toList crlf k)) (fun iv => cur.size - (intOf iv).toNat)
    case atStart => exact ⟨0, by omega, rfl, Lib.hid (Lib.NoOcc.zero _ _)⟩
    case round =>
      obtain ⟨k, hk, rfl, hno⟩ := hrel
      by_cases hk2 : k + 2 ≤ cur.size
      · have hk3 : (k : Int) + 1 < cur.size := by omega
        have ho := occ_two (s := cur.data.toList) (j := k) (by rw [Array.length_toList]; exact hk2)
        have he : (cur.extract k (k + 2)).toList = (cur.data.toList.drop k).take 2 := by rw [ext_list]; congr 1; omega
        rw [← he] at ho
        cases hb : ((cur.extract k (k + 2)).toList == crlf)
        · rw [hb] at ho
          have HN := Lib.hid (hno.out.succ ho)
          clear ho he hno
          go_wp2
          go_round
          case rel => exact ⟨k + 1, by omega, by go_num, HN⟩
          case measure => simp [intOf]; omega
        · rw [hb] at ho
          have hL := linesS_hit hno.out ho
          have hx1 : cur.extract 0 k = bsA (cur.data.toList.take k) := by rw [Lib.extract_eq]; rfl
          have hx2 : (cur.extract (k + 2) cur.size).data.toList = cur.data.toList.drop (k + 2) := by
            rw [Lib.extract_data]
            exact List.take_of_length_le (by rw [List.length_drop, Array.length_toList]; show cur.size - (k + 2) ≤ _; omega)
          have hx3 : (cur.extract (k + 2) cur.size).size = cur.size - (k + 2) := by simp
          obtain ⟨pre, hpre⟩ : ∃ pre, pre = cur.data.toList.take k := ⟨_, rfl⟩
          rw [← hpre] at hL hx1
          rw [← hx2] at hL
          have HL := Lib.hid hL
          have HX1 := Lib.hid hx1
          have HX3 := Lib.hid hx3
          have h1 := H1.out
          have h2 := H2.out
          rw [hL] at h1 h2
          have HN1 := Lib.hid (show (linesS s.data.toList).1 = (l ++ [pre]) ++ (linesS (cur.extract (k + 2) cur.size).data.toList).1 by rw [h1, List.append_assoc]; rfl)
          have HN2 := Lib.hid h2
          obtain ⟨i3, hi, hz0, hz1, hz2⟩ := info_parts info9
          have hs0 := HS1.out.litSrcV (P := Try.prog) (t := 40) (e := 9) (cs := #[.string (cur.extract 0 k)]) (n := 1) (size := 1) rfl (by decide) Try.underlying40 (by simp [Value.oneCell'])
          have Hs := Lib.hid hs0
          have HG := Lib.hid (HS1.out.grow (.cells #[.string (cur.extract 0 k)] 9))
          clear ho he hno hL hx1 hx2 hx3 h1 h2 hpre hs0
          go_wp2_with (at_builtin; refine wpList_append_src _ rfl _ _ 40 40 rfl 0 9 i3 (.string ⟨#[]⟩) 1 16 Try.underlying40 hi hz0 hz1 hz2 rfl _ l.length (strs l) rfl HG.out.head _ 1 _ rfl Hs.out (by unfold maxLen; omega) (by omega) (Nat.zero_le _) ?_)
          intro v' w' hown hgrow hat
          have hown2 : w'.ownsRow 0 9 1 v' (l ++ [pre]).length (strs (l ++ [pre])) := by
            have := hown
            rw [HX1.out] at this
            simpa [strs] using this
          have hs3 := HG.out.grown hgrow hown2 (by simpa using hat)
          obtain ⟨B', c', rfl⟩ := own_form hown2
          obtain ⟨n2, hn2⟩ : ∃ n2, n2 = (l ++ [pre]).length := ⟨_, rfl⟩
          have hn3 : n2 = l.length + 1 := by rw [hn2]; simp
          rw [← hn2] at hs3 ⊢
          have HS3 := Lib.hid (And.intro hn2 hs3)
          have HN3 := Lib.hid hn3
          clear hown hown2 hgrow hat hs3 hn2 hn3 HG Hs
          have hk4 : (k : Int) + 2 ≤ cur.size := by omega
          go_wp2
          go_roundw
          case rel => exact ⟨cur.extract (k + 2) cur.size, B', c', l ++ [pre], rfl, by rw [← HS3.out.1], by rw [← HS3.out.1, HN3.out, HX3.out]; omega, HN1.out, HN2.out, by rw [← HS3.out.1]; exact HS3.out.2⟩
          case measure => show (cur.extract (k + 2) cur.size).size < cur.size; rw [HX3.out]; omega
      · have hk3 : (cur.size : Int) ≤ k + 1 := by omega
        have hno2 : ∀ j, Lib.occAt cur.data.toList crlf j = false := fun j => by
          by_cases hj : j < k
          · exact hno.out j hj
          · exact occ_short (by rw [Array.length_toList]; show cur.size < j + 2; omega)
        have hL := linesS_miss hno2
        have h1 := H1.out
        have h2 := H2.out
        rw [hL, List.append_nil] at h1
        rw [hL] at h2
        have HN1 := Lib.hid h1
        have HN2 := Lib.hid h2
        clear hno hno2 hL h1 h2
        go_wp2
        go_returns
        rw [HN1.out, HN2.out]
        exact Ret.mk (.refl I) HS1.out ⟨rfl, B, cb, by first | rfl | (rw [← ByteArray.toList_eq]; rfl), rfl⟩
end Go.Proofs.Ytpbbincgddmbiaa
