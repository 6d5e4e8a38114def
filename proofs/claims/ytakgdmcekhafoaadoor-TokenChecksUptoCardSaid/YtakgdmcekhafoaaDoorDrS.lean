/- rostrumref01.Digits. -/
import Derived.Test.YtakgdmcekhafoaaDoorNuS
import Derived.Lib.SlBytesRow
namespace Go.Proofs.YtakgdmcekhafoaaDoor.NuS
open Go.RowKit
set_option linter.unusedSimpArgs false

/-- what is still to be written, and what is written -/
def Dig (n m : Nat) (l : List UInt8) : Prop := (l = [] ∧ m = n) ∨ (l ≠ [] ∧ 0 < m ∧ Lib.decDigits n = Lib.decDigits m ++ l) ∨ (l ≠ [] ∧ m = 0 ∧ Lib.decDigits n = l)
theorem Dig.next {n m : Nat} {l : List UInt8} (h : Dig n m l) (hm : 0 < m ∨ l = []) : Dig n (m / 10) (UInt8.ofNat (48 + m % 10) :: l) := by
  have key : Lib.decDigits n = Lib.decDigits m ++ l := by
    rcases h with ⟨rfl, rfl⟩ | ⟨_, _, e⟩ | ⟨h1, h2, _⟩
    · simp
    · exact e
    · rcases hm with h | h
      · omega
      · exact absurd h h1
  by_cases h10 : m < 10
  · refine .inr (.inr ⟨by simp, by omega, ?_⟩)
    rw [key, dec_small h10, Nat.mod_eq_of_lt h10]
    rfl
  · refine .inr (.inl ⟨by simp, by omega, ?_⟩)
    rw [key, dec_big h10, List.append_assoc]
    rfl
theorem Dig.len {n m : Nat} {l : List UInt8} (h : Dig n m l) : l.length ≤ (Lib.decDigits n).length := by
  rcases h with ⟨rfl, _⟩ | ⟨_, _, e⟩ | ⟨_, _, e⟩
  · exact Nat.zero_le _
  · rw [e, List.length_append]; omega
  · rw [e]; exact Nat.le_refl _
theorem nil_eq {l : List UInt8} (h : l = []) : ((bsA l).toList == []) = true := by subst h; rw [ByteArray.toList_eq]; rfl
theorem nil_ne {l : List UInt8} (h : l ≠ []) : ((bsA l).toList == []) = false := by
  rw [ByteArray.toList_eq]
  show (l == []) = false
  exact beq_false_of_ne h
def emp : Value → Nat
  | .string s => if s.size = 0 then 1 else 0
  | _ => 0
theorem conv_dig (w : World) (b : UInt8) (x : Int) (hx : x = b.toNat) : (convert 22 9 (.slice (some ⟨w.heap.size, 0, none⟩) 1 1)).run Tryd.prog (w.alloc (.cells #[.int .u8 x] 5)) = .ok (.string (bsA [b])) (w.alloc (.cells #[.int .u8 x] 5)) := by
  subst hx
  refine Lib.run_convert_whole _ 22 5 9 Tryd.underlying22 Tryd.underlying5 Tryd.underlying9 w.heap.size 0 (bsA [b]) (fun i hi => ?_) 1
  have : i = 0 := by
    have h1 : (bsA [b]).size = 1 := bsA_size [b]
    omega
  subst this
  unfold World.cell?
  rw [heap_alloc_new]
  rfl
set_option maxRecDepth 8000 in
set_option maxHeartbeats 1000000 in
theorem digitsR (I : Img) (M : List Res) (w : World) (n : Nat) (hst : St I M w) (hn : n < 18446744073709551616) :
    Calls Tryd.prog 28 #[.int .u64 n] w (Ret I (fun v J M' => I = J ∧ M' = M ∧ v = .string (bsA (Lib.decDigits n)))) := by
  have hd20 := dec_len 20 n (by decide) (by omega)
  have HS := Lib.hid (show n ≤ 18446744073709551615 ∧ (Lib.decDigits n).length ≤ 20 ∧ St I M w from ⟨by omega, hd20, hst⟩)
  clear hst hn hd20
  go_enter Tryd.func28, Tryd.ntmps28
  go_wp2
  go_loopw [0, 3] (fun a s wr => ∃ (m : Nat) (l : List UInt8), a = .int .u64 m ∧ s = .string (bsA l) ∧ Hid (Dig n m l ∧ n ≤ 18446744073709551615 ∧ m ≤ n ∧ (Lib.decDigits n).length ≤ 20 ∧ St I M wr)) (fun a s _ => (intOf a).toNat + emp s)
  case atStart => exact ⟨n, [], rfl, rfl, Lib.hid ⟨.inl ⟨rfl, rfl⟩, HS.out.1, Nat.le_refl _, HS.out.2⟩⟩
  case round =>
    obtain ⟨m, l, rfl, rfl, HK⟩ := hrel
    clear HS
    have hm64 : (m : Int) ≤ 18446744073709551615 := by have := HK.out.2.1; have := HK.out.2.2.1; omega
    have hg : (0 < m ∨ l = []) ∨ (¬ 0 < m ∧ l ≠ []) := by
      by_cases h1 : 0 < m
      · exact .inl (.inl h1)
      · by_cases h2 : l = []
        · exact .inl (.inr h2)
        · exact .inr ⟨h1, h2⟩
    rcases hg with hg | ⟨hm, hl⟩
    · have HG := Lib.hid hg
      have hl20 := Nat.le_trans HK.out.1.len HK.out.2.2.2.1
      obtain ⟨X, hX⟩ : ∃ X, X = bsA l := ⟨_, rfl⟩
      obtain ⟨b, hb⟩ : ∃ b, b = UInt8.ofNat (48 + m % 10) := ⟨_, rfl⟩
      have hbx : (48 : Int) + (m : Int) % 10 = (b.toNat : Int) := by
        rw [hb, dig_nat (by omega)]
        omega
      have HM := Lib.hid (show (m / 10 : Nat) + 0 < m + emp (.string X) from by
        rcases hg with h | h
        · omega
        · subst h
          rw [hX]
          show m / 10 + 0 < m + 1
          omega)
      have HD := Lib.hid (show Dig n (m / 10) (b :: l) from by rw [hb]; exact HK.out.1.next hg)
      have HB := Lib.hid hb
      have hXs : X.size ≤ 20 := by rw [hX, bsA_size]; exact hl20
      have HX := Lib.hid hX
      have hv := conv_dig wr b
      obtain ⟨D, hD⟩ : ∃ D, D = bsA [b] := ⟨_, rfl⟩
      have hDs : D.size = 1 := by rw [hD]; exact bsA_size [b]
      rw [← hD] at hv
      have HDX := Lib.hid (show D ++ X = bsA (b :: l) from by rw [hD, hX]; exact bsA_app [b] l)
      have hb9 : (b.toNat : Int) ≤ 255 := by have := b.toNat_lt; omega
      rw [← hX]
      clear hg hX hb hl20 hD
      have HR := Lib.hid (show ∀ w', St I M w' → (∃ (m_1 : Nat) (l : List UInt8), Value.int IntKind.u64 ((m : Int) / 10) = Value.int IntKind.u64 m_1 ∧ Value.string (D ++ X) = Value.string (bsA l) ∧ Hid (Dig n m_1 l ∧ n ≤ 18446744073709551615 ∧ m_1 ≤ n ∧ (Lib.decDigits n).length ≤ 20 ∧ St I M w')) ∧
          (intOf (Value.int IntKind.u64 ((m : Int) / 10))).toNat + emp (Value.string (D ++ X)) < (intOf (Value.int IntKind.u64 m)).toNat + emp (Value.string X) from fun w' hs' =>
        ⟨⟨m / 10, b :: l, rfl, by rw [HDX.out], Lib.hid ⟨HD.out, HK.out.2.1, by have := HK.out.2.2.1; omega, HK.out.2.2.2.1, hs'⟩⟩, by
          have e0 : emp (Value.string (D ++ X)) = 0 := by
            rw [HDX.out]
            show (if (bsA (b :: l)).size = 0 then 1 else 0) = 0
            rw [bsA_size, if_neg (by simp)]
          rw [e0]
          have := HM.out
          show ((m : Int) / 10).toNat + 0 < (m : Int).toNat + _
          omega⟩)
      have HS' := Lib.hid ((HK.out.2.2.2.2.alloc 5 #[.int .u8 b.toNat]).drop)
      rcases HG.out with hm | hl
      · have hm' : (0 : Int) < m := by omega
        clear hm
        go_wp2
        exact HR.out _ HS'.out
      · have hl' : (X.toList == []) = true := by rw [HX.out]; exact nil_eq hl
        have HL := Lib.hid hl
        clear hl
        by_cases hm : 0 < m
        · have hm' : (0 : Int) < m := by omega
          clear hm
          go_wp2
          exact HR.out _ HS'.out
        · obtain rfl : m = 0 := by omega
          have e48 : (48 : Int) = b.toNat := by omega
          have hv2 := hv 48 e48
          have HS2 := Lib.hid ((HK.out.2.2.2.2.alloc 5 #[.int .u8 48]).drop)
          clear hm
          go_wp2
          exact HR.out _ HS'.out
    · obtain rfl : m = 0 := by omega
      obtain ⟨X, hX⟩ : ∃ X, X = bsA l := ⟨_, rfl⟩
      have hl' : (X.toList == []) = false := by rw [hX]; exact nil_ne hl
      have HX := Lib.hid hX
      have HE := Lib.hid (show l = Lib.decDigits n ∧ St I M wr from ⟨by
        rcases HK.out.1 with ⟨e, _⟩ | ⟨_, h, _⟩ | ⟨_, _, e⟩
        · exact absurd e hl
        · exact absurd h (by omega)
        · exact e.symm, HK.out.2.2.2.2⟩)
      rw [← hX]
      clear hm hl hX
      go_wp2
      go_ret
      exact Ret.mk (.refl I) HE.out.2 ⟨rfl, rfl, show Value.string X = Value.string (bsA (Lib.decDigits n)) by rw [HX.out, ← HE.out.1]⟩
end Go.Proofs.YtakgdmcekhafoaaDoor.NuS
