/- slices.ContainsFunc over signal.Print's closure; rostrumref24.word; rostrumref01.SameTexts. -/
import Derived.Test.YthmamheegkppdaaDoorSgA
namespace Go.Proofs.YthmamheegkppdaaDoor
open Go.RowKit
set_option linter.unusedSimpArgs false

abbrev strs (l : List ByteArray) : List Value := l.map Value.string
def argB (a : ByteArray) : Bool := ofB a 200 33 126
theorem eg24 : ∀ args w, (callFunc 24 args).run Tryd.prog w = .ok (.enter 24 args) w := enters_of Tryd.func24 (by kernel_rfl) rfl
theorem c24 (a : ByteArray) (w : World) (hs : a.size ≤ maxLen) : Calls Tryd.prog 24 #[.string a] w fun e w' => e = .returned (.bool (!argB a)) ∧ Below w.heap.size w w' := by
  have HC : Hid (Calls Tryd.prog 22 #[.string a, .int .i64 200, .int .i32 33, .int .i32 126] w fun e w' => e = .returned (.bool (argB a)) ∧ Below w.heap.size w w') := ofP a 200 33 126 w hs (by decide)
  generalize argB a = b at HC ⊢
  go_enter Tryd.func24, Tryd.ntmps24
  go_wp2_with fail
  go_at_call 22
  refine HC.out.mono ?_
  rintro e w' ⟨rfl, hb⟩
  go_wp2
  go_returns
  exact ⟨rfl, hb⟩
theorem Cells.strAt {I : Img} {M : List Res} {w : World} {A : Option Addr} {l : List ByteArray} (h : Cells I A (strs l)) (hs : St I M w) {k : Nat} (hk : k < l.length) : ∃ g o, A = some ⟨g, o, none⟩ ∧ w.cell? ⟨g, o + k, none⟩ = some (.string l[k]) := by
  obtain ⟨g, o, e, hc⟩ := h (by simpa [strs] using (show 0 < l.length by omega))
  refine ⟨g, o, e, ?_⟩
  rw [hs.cell (hc k (by simpa [strs] using hk))]
  simp [strs]
theorem take_all' {p : ByteArray → Bool} (l : List ByteArray) (k : Nat) (hk : k < l.length) : (l.take (k + 1)).all p = ((l.take k).all p && p l[k]) := by
  rw [List.take_succ_eq_append_getElem hk, List.all_append]
  simp
set_option maxHeartbeats 1000000 in
theorem idxP (I : Img) (M : List Res) (w : World) (A : Option Addr) (c : Nat) (l : List ByteArray) (hst : St I M w) (hA : Cells I A (strs l)) (hz : ∀ a ∈ l, a.size ≤ maxLen) (hl : l.length ≤ 140737488351232) :
    Calls Tryd.prog 36 #[.slice A l.length c, .func (.func 24) #[] #[]] w (Ret I (fun v J M' => I = J ∧ M' = M ∧ ∃ k : Int, v = .int .i64 k ∧ -1 ≤ k ∧ (decide (0 ≤ k)) = !(l.all argB))) := by
  have HA := Lib.hid hA
  have HZ := Lib.hid hz
  have HS := Lib.hid hst
  have e24 := eg24
  clear hA hz hst
  go_enter Tryd.func36, Tryd.ntmps36
  go_wp2
  go_loopw [8] (fun kv wr => ∃ k : Nat, k ≤ l.length ∧ kv = .int .i64 k ∧ Hid ((l.take k).all argB = true ∧ St I M wr)) (fun kv _ => l.length - (intOf kv).toNat)
  case atStart => exact ⟨0, Nat.zero_le _, rfl, Lib.hid ⟨by simp, HS.out⟩⟩
  case round =>
    obtain ⟨k, hk, rfl, HH⟩ := hrel
    clear HS
    by_cases hlt : k < l.length
    rotate_left
    · obtain rfl : k = l.length := by omega
      have HE := Lib.hid (show l.all argB = true from by have := HH.out.1; rwa [List.take_length] at this)
      have HS2 := Lib.hid HH.out.2
      clear HH hlt
      go_wp2
      go_returns
      exact Ret.mk (.refl I) HS2.out ⟨rfl, rfl, -1, rfl, by omega, by rw [HE.out]; decide⟩
    obtain ⟨g, o, rfl, y0⟩ := HA.out.strAt HH.out.2 hlt
    have HK := Lib.hid (take_all' (p := argB) l k hlt)
    have hm : l[k] ∈ l := List.getElem_mem hlt
    have HC := Lib.hid (c24 l[k] wr (HZ.out _ hm))
    have HAL := Lib.hid (show argB l[k] = false → l.all argB = false from fun h => by
      rw [List.all_eq_false]
      exact ⟨l[k], hm, by rw [h]; simp⟩)
    generalize l[k] = a at y0 HC HK HAL
    clear hm
    go_wp2_with fail
    go_at_call 24
    refine HC.out.mono ?_
    rintro e w' ⟨rfl, hb⟩
    have HS2 := Lib.hid (HH.out.2.below hb)
    clear hb HC
    cases ha : argB a
    · have HE := Lib.hid (HAL.out ha)
      clear ha
      go_wp2
      go_returns
      exact Ret.mk (.refl I) HS2.out ⟨rfl, rfl, k, rfl, by omega, by rw [HE.out]; simp⟩
    · have HE := Lib.hid (show (l.take (k + 1)).all argB = true from by rw [HK.out, HH.out.1, ha]; rfl)
      clear ha
      go_wp2
      go_roundw
      case rel => exact ⟨k + 1, by omega, by go_num, Lib.hid ⟨HE.out, HS2.out⟩⟩
      case measure => simp [intOf]; omega
theorem containsP (I : Img) (M : List Res) (w : World) (A : Option Addr) (c : Nat) (l : List ByteArray) (hst : St I M w) (hA : Cells I A (strs l)) (hz : ∀ a ∈ l, a.size ≤ maxLen) (hl : l.length ≤ 140737488351232) :
    Calls Tryd.prog 23 #[.slice A l.length c, .func (.func 24) #[] #[]] w (Ret I (fun v J M' => I = J ∧ M' = M ∧ v = .bool (!(l.all argB)))) := by
  have HC := Lib.hid (idxP I M w A c l hst hA hz hl)
  clear hst hA hz
  go_enter Tryd.func23, Tryd.ntmps23
  go_wp2_with fail
  go_at_call 36
  refine HC.out.mono ?_
  rintro e w' ⟨_, _, _, rfl, _, hs, rfl, rfl, k, rfl, hk, hd⟩
  have HD := Lib.hid hd
  clear hd
  by_cases h0 : 0 ≤ k
  · have HE := Lib.hid (show (!(l.all argB)) = true by rw [← HD.out]; simpa using h0)
    go_wp2
    go_returns
    exact Ret.mk (.refl I) hs ⟨rfl, rfl, congrArg Value.bool HE.out.symm⟩
  · have hd : decide (0 ≤ k) = false := by simpa using h0
    have HE := Lib.hid (show (!(l.all argB)) = false by rw [← HD.out]; exact hd)
    go_wp2
    go_returns
    exact Ret.mk (.refl I) hs ⟨rfl, rfl, congrArg Value.bool HE.out.symm⟩
end Go.Proofs.YthmamheegkppdaaDoor
