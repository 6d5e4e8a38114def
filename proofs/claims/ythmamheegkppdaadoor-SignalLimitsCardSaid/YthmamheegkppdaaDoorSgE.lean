/- rostrumref24.Print, rostrumref01.SameTexts. -/
import Derived.Test.YthmamheegkppdaaDoorSgD
namespace Go.Proofs.YthmamheegkppdaaDoor
open Go.RowKit
set_option linter.unusedSimpArgs false

def accM (m : Msg) (k : Nat) : List UInt8 := ls m.verb ++ Lib.joinTail [32] ((m.args.take k).map ls)
theorem acc_next {m : Msg} {k : Nat} (hk : k < m.args.length) : accM m (k + 1) = accM m k ++ ([32] ++ ls m.args[k]) := by
  unfold accM
  rw [List.take_succ_eq_append_getElem hk, List.map_append]
  simp [Lib.joinTail]
theorem acc_all (m : Msg) : accM m m.args.length ++ [10] = headM m := by
  unfold accM headM
  rw [List.take_length, List.append_assoc]
theorem acc_len {m : Msg} {k : Nat} (hv : m.verb.size ≤ 10) (ha : (m.args.take k).all argB = true) (hk : k ≤ 4) : (accM m k).length ≤ 814 := by
  have h1 : ∀ a ∈ m.args.take k, a.size ≤ 200 := fun a h => (of_size (List.all_eq_true.1 ha a h)).1
  have h2 := lens_le (m.args.take k) 200 h1
  unfold accM
  simp only [List.length_append, Lib.joinTail_length, List.length_map, List.length_take, List.length_cons, List.length_nil, ls_len] at h2 ⊢
  omega
set_option maxRecDepth 100000 in
set_option maxHeartbeats 2000000 in
theorem printRef (I : Img) (M : List Res) (w : World) (A : Option Addr) (c : Nat) (m : Msg) (hst : St I M w) (hA : Cells I A (strs m.args)) (hz : MsgSz m) :
    Calls Tryd.prog 9 #[.agg (msgC m (.slice A m.args.length c))] w (Ret I (fun v J M' => I = J ∧ M' = M ∧ v = .tuple #[.string (bsA (printR m).1), .int .i64 (printR m).2])) := by
  obtain ⟨hz1, hz2, hz3, hz4⟩ := hz
  have hs := hst.alloc 24 (msgC m (.slice A m.args.length c))
  obtain ⟨b, hb⟩ : ∃ b, b = w.heap.size := ⟨_, rfl⟩
  rw [← hb] at hs
  have HA := Lib.hid hA
  have HZ3 := Lib.hid hz3
  clear hst hA hz3
  go_enter Tryd.func9, Tryd.ntmps9
  go_upto_region 1 with fail
  rw [← hb]
  clear hb
  generalize World.alloc _ _ = W at hs ⊢
  obtain ⟨y0, y1, y2, -⟩ := Blk.three (show Blk W b 24 #[.string m.verb, .slice A m.args.length c, .string m.body] from hs.head)
  have HS := Lib.hid hs
  clear hs
  have hw : Calls Tryd.prog 21 #[.string m.verb, .int .i64 10, .int .u8 65, .int .u8 90] W fun e w' => e = .returned (.bool (ofB m.verb 10 65 90)) ∧ W = w' := wordR m.verb 10 65 90 W hz1
  cases hv : ofB m.verb 10 65 90
  · rw [hv] at hw
    have HC := Lib.hid hw
    have HE := Lib.hid (printR_bad (show goodM m = false by simp [goodM, hv]))
    clear hv hw
    go_wp2_with fail
    go_at_call 21
    refine HC.out.mono ?_
    rintro e w2 ⟨rfl, rfl⟩
    go_wp2; go_ret2; exact Ret.mk (.refl I) HS.out.drop ⟨rfl, rfl, by rw [HE.out]; rfl⟩
  rw [hv] at hw
  have HC := Lib.hid hw
  have HV := Lib.hid hv
  have hvs := (of_size hv).1
  clear hv hw
  go_wp2_with fail
  go_at_call 21
  refine HC.out.mono ?_
  rintro e w2 ⟨rfl, rfl⟩
  clear HC
  by_cases hn : m.args.length ≤ 4
  rotate_left
  · have HE := Lib.hid (printR_bad (show goodM m = false by simp [goodM, hn]))
    have hn' : (4 : Int) < m.args.length := by omega
    clear hn
    go_wp2; go_ret2; exact Ret.mk (.refl I) HS.out.drop ⟨rfl, rfl, by rw [HE.out]; rfl⟩
  have hn' : (m.args.length : Int) ≤ 4 := by omega
  have hn2 : decide ((4 : Int) < m.args.length) = false := decide_eq_false (by omega)
  by_cases hbd : m.body.size ≤ 9192
  rotate_left
  · have HE := Lib.hid (show printR m = ([], 1) from if_neg (fun h => by have := h.2; omega))
    have hn' : (9192 : Int) < m.body.size := by omega
    clear hbd
    go_wp2; go_ret2; exact Ret.mk (.refl I) HS.out.drop ⟨rfl, rfl, by rw [HE.out]; rfl⟩
  have hb1 : (m.body.size : Int) ≤ 9192 := by omega
  have hb2 : decide ((9192 : Int) < m.body.size) = false := decide_eq_false (by omega)
  have HBD := Lib.hid hbd
  clear hbd
  go_upto_block 0 with fail
  clear hb1 hb2
  go_wp2_with fail
  go_loop [4, 27] (fun sv kv => ∃ k : Nat, k ≤ m.args.length ∧ kv = .int .i64 k ∧ ∃ S : ByteArray, sv = .string S ∧ S.size ≤ 814 ∧ Hid ((m.args.take k).all argB = true ∧ S = bsA (accM m k))) (fun _ kv => m.args.length - (intOf kv).toNat)
  case atStart => exact ⟨0, Nat.zero_le _, rfl, m.verb, rfl, by omega, Lib.hid ⟨by simp, ls_inj (by simp [accM, Lib.joinTail])⟩⟩
  case round =>
    obtain ⟨k, hk, rfl, S, rfl, hS, HH⟩ := hrel
    by_cases hlt : k < m.args.length
    · obtain ⟨g, o, rfl, z0⟩ := HA.out.strAt HS.out hlt
      have hm : m.args[k] ∈ m.args := List.getElem_mem hlt
      have hw : Calls Tryd.prog 21 #[.string m.args[k], .int .i64 200, .int .u8 33, .int .u8 126] W fun e w' => e = .returned (.bool (argB m.args[k])) ∧ W = w' := wordR m.args[k] 200 33 126 W (HZ3.out _ hm)
      have HAN := Lib.hid (acc_next hlt)
      have HK := Lib.hid (take_all' (p := argB) m.args k hlt)
      have HAL := Lib.hid (show argB m.args[k] = false → m.args.all argB = false from fun h => by
        rw [List.all_eq_false]
        exact ⟨m.args[k], hm, by rw [h]; simp⟩)
      generalize m.args[k] = a at z0 hw HAN HK HAL
      clear hm
      cases ha : argB a
      · have HE := Lib.hid (printR_bad (show goodM m = false by simp [goodM, HAL.out ha]))
        rw [ha] at hw
        have HC := Lib.hid hw
        clear ha hw
        go_wp2_with fail
        go_at_call 21
        refine HC.out.mono ?_
        rintro e w2 ⟨rfl, rfl⟩
        go_wp2; go_ret2; exact Ret.mk (.refl I) HS.out.drop ⟨rfl, rfl, by rw [HE.out]; rfl⟩
      · have has : a.size ≤ 200 := (of_size ha).1
        rw [ha] at hw HK
        have HE := Lib.hid (show (m.args.take (k + 1)).all argB = true by rw [HK.out, HH.out.1]; rfl)
        have HX := Lib.hid (show S ++ ⟨#[32]⟩ ++ a = bsA (accM m (k + 1)) from ls_inj (by
          rw [HH.out.2, HAN.out]
          simp [app_ls]))
        have HZ := Lib.hid (show (S ++ ⟨#[32]⟩ ++ a).size ≤ 814 by rw [HX.out, bsA_size]; exact acc_len hvs HE.out (by omega))
        have HC := Lib.hid hw
        clear ha hw
        go_wp2_with fail
        go_at_call 21
        refine HC.out.mono ?_
        rintro e w2 ⟨rfl, rfl⟩
        go_wp2
        go_round
        case rel => exact ⟨k + 1, by omega, by go_num, _, rfl, HZ.out, Lib.hid ⟨HE.out, HX.out⟩⟩
        case measure => simp [intOf]; omega
    · obtain rfl : k = m.args.length := by omega
      have HG := Lib.hid (show goodM m = true by
        have := HH.out.1
        rw [List.take_length] at this
        simp [goodM, HV.out, hn, this])
      have HX := Lib.hid (show ls S ++ [10] = headM m by rw [HH.out.2]; exact acc_all m)
      have hX1 : S.size + 1 = (headM m).length := by rw [← HX.out, List.length_append, ls_len]; rfl
      have HX1 := Lib.hid hX1
      clear hX1 hlt
      by_cases hfit : (headM m).length + m.body.size ≤ 9192
      · have HE := Lib.hid (show printR m = (headM m ++ ls m.body, 0) from if_pos ⟨HG.out, hfit⟩)
        have hf1 : (S.size : Int) + 1 + m.body.size ≤ 9192 := by have := HX1.out; omega
        clear hfit
        go_wp2
        go_ret2
        refine Ret.mk (.refl I) HS.out.drop ⟨rfl, rfl, ?_⟩
        rw [HE.out]
        exact congrArg (fun x => Value.tuple #[.string x, .int .i64 0]) (ls_inj (by rw [← HX.out]; simp [app_ls]))
      · have HE := Lib.hid (show printR m = ([], 1) from if_neg (fun h => hfit h.2))
        have hf1 : 9192 < (S.size : Int) + 1 + m.body.size := by have := HX1.out; omega
        have hbs : m.body.size ≤ 100000 := by have := HBD.out; omega
        clear hfit
        go_wp2; go_ret2; exact Ret.mk (.refl I) HS.out.drop ⟨rfl, rfl, by rw [HE.out]; rfl⟩
end Go.Proofs.YthmamheegkppdaaDoor
