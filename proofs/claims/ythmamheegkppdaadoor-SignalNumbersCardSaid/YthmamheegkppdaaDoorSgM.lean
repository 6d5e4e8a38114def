/- signal.Number; rostrumref24.Number, rostrumref24.Digits. -/
import Derived.Test.YthmamheegkppdaaDoorSgK
import Derived.Test.YthmamheegkppdaaDoorDg
import Derived.Test.YthmamheegkppdaaDoorDr
import Derived.Lib.SmallJoins
import Derived.Lib.AtoiErrMem
namespace Go.Proofs.YthmamheegkppdaaDoor
open Go.RowKit
set_option linter.unusedSimpArgs false

def numR (l : List UInt8) : Option Nat := readR 2147483647 l
def numN (l : List UInt8) : Nat := (numR l).getD 0
def numB (l : List UInt8) : Bool := (numR l).isSome
theorem num_some {l : List UInt8} {n : Nat} (h : numR l = some n) : numN l = n ∧ numB l = true := by unfold numN numB; rw [h]; exact ⟨rfl, rfl⟩
theorem num_none {l : List UInt8} (h : numR l = none) : numN l = 0 ∧ numB l = false := by unfold numN numB; rw [h]; exact ⟨rfl, rfl⟩
theorem num_ok {l : List UInt8} {v : Int} (h : Lib.parseIntB 32 l = .ok v) (h0 : 0 ≤ v) (hi : Lib.itoa v = l) : numR l = some v.toNat := by
  have hb := (parseInt_bound h).1
  have e : ((2 ^ (32 - 1) : Nat) : Int) = 2147483648 := rfl
  rw [e] at hb
  refine readR_some.2 ⟨?_, by omega⟩
  rw [← hi]
  unfold Lib.itoa
  rw [if_neg (by omega)]
theorem num_bad {l : List UInt8} (h : ∀ n : Nat, Lib.parseIntB 32 l = .ok (n : Int) → Lib.itoa n ≠ l) : numR l = none :=
  readR_none (fun n hn e => by
    have h1 := parseInt_dec 32 n (.inl rfl) (show n < 2 ^ (32 - 1) by have e : (2 : Nat) ^ (32 - 1) = 2147483648 := rfl; omega)
    rw [← e] at h1
    refine h n h1 ?_
    unfold Lib.itoa
    rw [if_neg (by omega), e]
    rfl)
/-- the variables of strconv's errors hold something -/
def ErrV (I : Img) (g : Nat) : Prop := ∃ ev, I.cell? ⟨g, 0, none⟩ = some ev ∧ (ev = .nilIface ∨ ∃ te pe, ev = .iface te pe)
theorem ErrV.mono {I J : Img} {g : Nat} (h : ErrV I g) (hl : I.le J) : ErrV J g := by
  obtain ⟨ev, h1, h2⟩ := h
  exact ⟨ev, hl.cell h1, h2⟩
/-- ParseInt(s, 10, 32): a number, or an error -/
theorem parse32 (I : Img) (M : List Res) (w : World) (s : ByteArray) (hst : St I M w) (h1 : ErrV I 1) (h2 : ErrV I 2) (hs : s.size ≤ 281474976710656) :
    (∃ v : Int, Lib.parseIntB 32 (ls s) = .ok v ∧ Calls Tryd.prog 29 #[.string s, .int .i64 10, .int .i64 32] w fun e w' => e = .returned (.tuple #[.int .i64 v, .nilIface]) ∧ St I M w') ∨
    ((∀ v : Int, Lib.parseIntB 32 (ls s) ≠ .ok v) ∧ Calls Tryd.prog 29 #[.string s, .int .i64 10, .int .i64 32] w fun e w' => ∃ (r : Int) (p : Value), e = .returned (.tuple #[.int .i64 r, .iface 86 p]) ∧ St I M w') := by
  obtain ⟨e1, c1, k1⟩ := h1
  obtain ⟨e2, c2, k2⟩ := h2
  cases e : Lib.parseIntB 32 (ls s) with
  | ok v =>
    refine .inl ⟨v, rfl, (Tryd.strconv_ParseInt_10_at32_ok s (by omega) v e w).mono ?_⟩
    rintro e w' ⟨rfl, rfl | ⟨t, rfl⟩⟩
    · exact ⟨rfl, hst⟩
    · exact ⟨rfl, hst.below (Lib.bytesWorld_below w 5 t)⟩
  | range =>
    refine .inr ⟨nofun, (Tryd.strconv_ParseInt_10_at32_range s hs e e2 w (hst.cell c2) k2).mono ?_⟩
    rintro e w' ⟨N, rfl, -, -, hb⟩
    exact ⟨_, _, rfl, hst.below hb⟩
  | _ =>
    refine .inr ⟨nofun, (Any.strconv_ParseInt_10_at32_syntax Tryd.laysC174 s hs e e1 w (hst.cell c1) k1).mono ?_⟩
    rintro e w' ⟨N, rfl, -, -, hb⟩
    exact ⟨_, _, rfl, hst.below hb⟩
set_option maxRecDepth 8000 in
set_option maxHeartbeats 1000000 in
theorem numberP (I : Img) (M : List Res) (w : World) (s : ByteArray) (hst : St I M w) (ht : Tab10 I) (h1 : ErrV I 1) (h2 : ErrV I 2) (hs : s.size ≤ 281474976710656) :
    Calls Tryd.prog 17 #[.string s] w (Ret I (fun v J M' => I = J ∧ M' = M ∧ v = .tuple #[.int .i64 (numN (ls s) : Nat), .bool (numB (ls s))])) := by
  rcases parse32 I M w s hst h1 h2 hs with ⟨v, e, hc⟩ | ⟨hbad, hc⟩
  · have HC := Lib.hid hc
    have hb := parseInt_bound e
    have e31 : ((2 ^ (32 - 1) : Nat) : Int) = 2147483648 := rfl
    rw [e31] at hb
    have hb1 : v ≤ 2147483647 := by omega
    have hb2 : -2147483648 ≤ v := hb.2
    by_cases h0 : v < 0
    · have HE := Lib.hid (num_none (num_bad (l := ls s) (fun n hn => by rw [e] at hn; injection hn with hn; omega)))
      clear hst hc hb e31 e
      go_enter Tryd.func17, Tryd.ntmps17
      go_wp2_with fail
      go_at_call 29
      refine HC.out.mono ?_
      rintro e w1 ⟨rfl, hs1⟩
      have HS := Lib.hid hs1
      clear HC hs1
      go_wp2
      go_ret2
      exact Ret.mk (.refl I) HS.out ⟨rfl, rfl, by rw [HE.out.1, HE.out.2]; rfl⟩
    · have h0' : 0 ≤ v := by omega
      have HF := Lib.hid (show ∀ w', St I M w' → Calls Tryd.prog 30 #[.int .i64 v, .int .i64 10] w' fun e w2 => e = .returned (.string (bsA (Lib.itoa v))) ∧ St I M w2 from fun w' hs' => (Tryd.strconv_FormatInt_10 v (by omega) (by omega) w' (ht M w' hs')).mono (by
        rintro e w2 ⟨rfl, k, os, rfl⟩
        exact ⟨rfl, hs'.below (Lib.below_grow _ _ (Nat.le_refl _) _ _)⟩))
      by_cases hi : Lib.itoa v = ls s
      · have HE := Lib.hid (num_some (num_ok e h0' hi))
        have heq : ((bsA (Lib.itoa v)).toList == s.toList) = true := by
          rw [hi]
          show (s.toList == s.toList) = true
          simp
        have HV := Lib.hid (show ((v.toNat : Nat) : Int) = v by omega)
        generalize bsA (Lib.itoa v) = X at *
        clear hst hc hb e31 e hi h0
        go_enter Tryd.func17, Tryd.ntmps17
        go_wp2_with fail
        go_at_call 29
        refine HC.out.mono ?_
        rintro e w1 ⟨rfl, hs1⟩
        have HG := Lib.hid (HF.out w1 hs1)
        clear HC HF hs1
        go_wp2_with fail
        go_at_call 30
        refine HG.out.mono ?_
        rintro e w2 ⟨rfl, hs2⟩
        have HS := Lib.hid hs2
        clear HG hs2
        go_wp2
        go_ret2
        exact Ret.mk (.refl I) HS.out ⟨rfl, rfl, by rw [HE.out.1, HE.out.2, HV.out]; rfl⟩
      · have HE := Lib.hid (num_none (num_bad (l := ls s) (fun n hn => by rw [e] at hn; injection hn with hn; rw [← hn]; exact hi)))
        have heq : ((bsA (Lib.itoa v)).toList == s.toList) = false := toList_ne (fun e' => hi (by rw [← e']))
        generalize bsA (Lib.itoa v) = X at *
        clear hst hc hb e31 e hi h0
        go_enter Tryd.func17, Tryd.ntmps17
        go_wp2_with fail
        go_at_call 29
        refine HC.out.mono ?_
        rintro e w1 ⟨rfl, hs1⟩
        have HG := Lib.hid (HF.out w1 hs1)
        clear HC HF hs1
        go_wp2_with fail
        go_at_call 30
        refine HG.out.mono ?_
        rintro e w2 ⟨rfl, hs2⟩
        have HS := Lib.hid hs2
        clear HG hs2
        go_wp2
        go_ret2
        exact Ret.mk (.refl I) HS.out ⟨rfl, rfl, by rw [HE.out.1, HE.out.2]; rfl⟩
  · have HC := Lib.hid hc
    have HE := Lib.hid (num_none (num_bad (l := ls s) (fun n hn => absurd hn (hbad n))))
    clear hst hc hbad
    go_enter Tryd.func17, Tryd.ntmps17
    go_wp2_with fail
    go_at_call 29
    refine HC.out.mono ?_
    rintro e w1 ⟨r, p, rfl, hs1⟩
    have HS := Lib.hid hs1
    clear HC hs1
    go_wp2
    go_ret2
    exact Ret.mk (.refl I) HS.out ⟨rfl, rfl, by rw [HE.out.1, HE.out.2]; rfl⟩
theorem readV_num (l : List UInt8) : readV 2147483647 l = .tuple #[.int .u64 (numN l : Nat), .bool (numB l)] := by
  cases e : readR 2147483647 l with
  | none => rw [readV_none e, (num_none e).1, (num_none e).2]; rfl
  | some n => rw [readV_some e, (num_some e).1, (num_some e).2]
theorem numN_le (l : List UInt8) : numN l ≤ 2147483647 := by
  cases e : numR l with
  | none => rw [(num_none e).1]; decide
  | some n => rw [(num_some e).1]; exact (readR_some.1 e).2
set_option maxRecDepth 8000 in
theorem numberR (s : ByteArray) (w : World) (hs : s.size ≤ maxLen) : Calls Tryd.prog 18 #[.string s] w fun e w' => e = .returned (.tuple #[.int .i64 (numN (ls s) : Nat), .bool (numB (ls s))]) ∧ w = w' := by
  have h := readP s 2147483647 w hs (by decide)
  rw [readV_num] at h
  have hn : (numN (ls s) : Int) ≤ 2147483647 := by have := numN_le (ls s); omega
  generalize numN (ls s) = n at *
  generalize numB (ls s) = b at *
  have HC := Lib.hid h
  clear h hs
  go_enter Tryd.func18, Tryd.ntmps18
  go_wp2_with fail
  go_at_call 31
  refine HC.out.mono ?_
  rintro e w1 ⟨rfl, rfl⟩
  clear HC
  go_wp2
  go_ret2
  exact ⟨rfl, rfl⟩
theorem digS_neg {n : Int} (h : n < 0) : digS n = [] := if_pos h
theorem digS_nat (n : Nat) : digS n = Lib.decDigits n := by
  unfold digS Lib.itoa
  rw [if_neg (by omega), if_neg (by omega)]
  rfl
set_option maxRecDepth 8000 in
theorem digitsRef (I : Img) (M : List Res) (w : World) (n : Int) (hst : St I M w) (h1 : n ≤ 9223372036854775807) (h0 : -9223372036854775808 ≤ n) :
    Calls Tryd.prog 20 #[.int .i64 n] w (Ret I (fun v J M' => I = J ∧ M' = M ∧ v = .string (bsA (digS n)))) := by
  by_cases hn : n < 0
  · have HE := Lib.hid (digS_neg hn)
    have HS := Lib.hid hst
    clear hst
    go_enter Tryd.func20, Tryd.ntmps20
    go_wp2
    go_ret
    exact Ret.mk (.refl I) HS.out ⟨rfl, rfl, by rw [HE.out]; rfl⟩
  · obtain ⟨m, rfl⟩ : ∃ m : Nat, n = m := ⟨n.toNat, by omega⟩
    have HC := Lib.hid (digitsR I M w m hst (by omega))
    have HE := Lib.hid (digS_nat m)
    clear hst hn
    go_enter Tryd.func20, Tryd.ntmps20
    go_wp2_with fail
    go_at_call 33
    refine HC.out.mono ?_
    rintro e w1 ⟨_, _, _, rfl, _, hs1, rfl, rfl, rfl⟩
    have HS := Lib.hid hs1
    clear HC hs1
    go_wp2
    go_ret
    exact Ret.mk (.refl I) HS.out ⟨rfl, rfl, by rw [HE.out]; rfl⟩
end Go.Proofs.YthmamheegkppdaaDoor
