/- SignalNumbers. -/
import Derived.Test.YthmamheegkppdaaDoorSgM
namespace Go.Proofs.YthmamheegkppdaaDoor
open Go.RowKit
set_option linter.unusedSimpArgs false

theorem back_neg {n : Int} (h : n < 0) : numN (digS n) = 0 ∧ numB (digS n) = false := num_none (readR_none (fun k _ e => by
  have := dec_pos k
  rw [← e, digS_neg h] at this
  simp at this))
theorem back_fit (m : Nat) (h : m < 2147483648) : numN (digS m) = m ∧ numB (digS m) = true := num_some (readR_some.2 ⟨digS_nat m, by omega⟩)
theorem back_big (m : Nat) (h : ¬ m < 2147483648) : numN (digS m) = 0 ∧ numB (digS m) = false := num_none (readR_none (fun k hk e => by
  rw [digS_nat] at e
  have := dec_inj e
  omega))
theorem digS_len (n : Int) (h : n ≤ 9223372036854775807) : (digS n).length ≤ 20 := by
  by_cases hn : n < 0
  · rw [digS_neg hn]; decide
  · obtain ⟨m, rfl⟩ : ∃ m : Nat, n = m := ⟨n.toNat, by omega⟩
    rw [digS_nat]
    exact dec_len 20 m (by decide) (by omega)
/-- what comes back of a number's text -/
theorem back_of (n : Int) (h1 : n ≤ 9223372036854775807) : ∃ (z : Nat) (b : Bool), numN (digS n) = z ∧ numB (digS n) = b ∧ ((n < 0 ∧ b = false) ∨ (0 ≤ n ∧ n < 2147483648 ∧ b = true ∧ (z : Int) = n) ∨ (0 ≤ n ∧ 2147483648 ≤ n ∧ b = false)) := by
  by_cases hn : n < 0
  · exact ⟨_, _, (back_neg hn).1, (back_neg hn).2, .inl ⟨hn, rfl⟩⟩
  · obtain ⟨m, rfl⟩ : ∃ m : Nat, n = m := ⟨n.toNat, by omega⟩
    by_cases h : m < 2147483648
    · exact ⟨_, _, (back_fit m h).1, (back_fit m h).2, .inr (.inl ⟨by omega, by omega, rfl, rfl⟩)⟩
    · exact ⟨_, _, (back_big m h).1, (back_big m h).2, .inr (.inr ⟨by omega, by omega, rfl⟩)⟩
set_option maxRecDepth 8000 in
set_option maxHeartbeats 1000000 in
theorem law7 (I : Img) (M : List Res) (w : World) (mx : Int) (s : ByteArray) (n : Int) (hst : St I M w) (hm : I.cell? ⟨0, 0, none⟩ = some (.int .i64 mx)) (ht : Tab10 I) (he1 : ErrV I 1) (he2 : ErrV I 2) (hs : s.size ≤ 281474976710656) (hn0 : -9223372036854775808 ≤ n) (hn1 : n ≤ 9223372036854775807) :
    Calls Tryd.prog 7 #[.string s, .int .i64 n] w (Ret I (fun v _ _ => v = .bool true)) := by
  have HC := Lib.hid (awakeP I M w mx hst hm ht)
  have HN := Lib.hid (show ∀ J M' w', I.le J → St J M' w' → Calls Tryd.prog 17 #[.string s] w' (Ret J (fun v J' M'' => J = J' ∧ M'' = M' ∧ v = .tuple #[.int .i64 (numN (ls s) : Nat), .bool (numB (ls s))])) from fun J M' w' hl h => numberP J M' w' s h (ht.mono hl) (he1.mono hl) (he2.mono hl) hs)
  have HR := Lib.hid (fun w' => numberR s w' (by unfold maxLen; omega))
  have HD := Lib.hid (show ∀ J M' w', I.le J → St J M' w' → Calls Tryd.prog 19 #[.int .i64 n] w' (Ret J (fun v J' M'' => J = J' ∧ M'' = M' ∧ v = .string (bsA (digS n)))) from fun J M' w' hl h => digitsP J M' w' n h (ht.mono hl) hn0 hn1)
  have HE := Lib.hid (show ∀ J M' w', I.le J → St J M' w' → Calls Tryd.prog 20 #[.int .i64 n] w' (Ret J (fun v J' M'' => J = J' ∧ M'' = M' ∧ v = .string (bsA (digS n)))) from fun J M' w' _ h => digitsRef J M' w' n h hn1 hn0)
  have HB := Lib.hid (show ∀ J M' w', I.le J → St J M' w' → Calls Tryd.prog 17 #[.string (bsA (digS n))] w' (Ret J (fun v J' M'' => J = J' ∧ M'' = M' ∧ v = .tuple #[.int .i64 (numN (digS n) : Nat), .bool (numB (digS n))])) from fun J M' w' hl h => numberP J M' w' (bsA (digS n)) h (ht.mono hl) (he1.mono hl) (he2.mono hl) (by rw [bsA_size]; have := digS_len n hn1; omega))
  obtain ⟨z, b, ez, eb, hcase⟩ := back_of n hn1
  rw [ez, eb] at HB
  clear ez eb hst hm ht he1 he2 hs
  generalize bsA (digS n) = X at *
  generalize numN (ls s) = x at *
  generalize numB (ls s) = y at *
  have HK := Lib.hid hcase
  clear hcase
  go_enter Tryd.func7, Tryd.ntmps7
  go_wp2_with fail
  go_at_call 8
  refine HC.out.mono ?_
  rintro e w1 ⟨_, J, _, rfl, hl, hs1, rfl, rfl⟩
  have HL := Lib.hid hl
  have H1 := Lib.hid (HN.out J _ w1 hl hs1)
  clear HC HN hs1 hl
  go_wp2_with fail
  go_at_call 17
  refine H1.out.mono ?_
  rintro e w2 ⟨_, _, _, rfl, _, hs2, rfl, rfl, rfl⟩
  have HS := Lib.hid hs2
  clear H1 hs2
  go_wp2_with fail
  go_at_call 18
  refine (HR.out w2).mono ?_
  rintro e w3 ⟨rfl, rfl⟩
  have H1 := Lib.hid (HD.out J _ w2 HL.out HS.out)
  clear HR HS
  go_wp2_with fail
  go_at_call 19
  refine H1.out.mono ?_
  rintro e w4 ⟨_, _, _, rfl, _, hs4, rfl, rfl, rfl⟩
  clear H1
  have H1 := Lib.hid (HE.out J _ w4 HL.out hs4)
  clear HE hs4
  go_wp2_with fail
  go_at_call 20
  refine H1.out.mono ?_
  rintro e w5 ⟨_, _, _, rfl, _, hs5, rfl, rfl, rfl⟩
  clear H1
  have H1 := Lib.hid (HD.out J _ w5 HL.out hs5)
  clear HD hs5
  go_wp2_with fail
  go_at_call 19
  refine H1.out.mono ?_
  rintro e w6 ⟨_, _, _, rfl, _, hs6, rfl, rfl, rfl⟩
  clear H1
  have H1 := Lib.hid (HB.out J _ w6 HL.out hs6)
  clear HB hs6
  go_wp2_with fail
  go_at_call 17
  refine H1.out.mono ?_
  rintro e w7 ⟨_, _, _, rfl, _, hs7, rfl, rfl, rfl⟩
  have HS := Lib.hid hs7
  clear H1 hs7
  rcases HK.out with ⟨h1, rfl⟩ | ⟨h1, h2, rfl, h3⟩ | ⟨h1, h2, rfl⟩
  · have h1' : decide (0 ≤ n) = false := decide_eq_false (by omega)
    clear h1
    go_wp2
    go_ret
    exact Ret.mk HL.out HS.out rfl
  · go_wp2
    go_ret
    exact Ret.mk HL.out HS.out rfl
  · have h2' : decide (n < 2147483648) = false := decide_eq_false (by omega)
    clear h2
    go_wp2
    go_ret
    exact Ret.mk HL.out HS.out rfl
end Go.Proofs.YthmamheegkppdaaDoor
