/- signal.Print. -/
import Derived.Test.YthmamheegkppdaaDoorSgB
namespace Go.Proofs.YthmamheegkppdaaDoor
open Go.RowKit
set_option linter.unusedSimpArgs false

structure Msg where
  verb : ByteArray
  args : List ByteArray
  body : ByteArray
def MsgSz (m : Msg) : Prop := m.verb.size ≤ maxLen ∧ m.body.size ≤ maxLen ∧ (∀ a ∈ m.args, a.size ≤ maxLen) ∧ m.args.length ≤ 140737488351232
def goodM (m : Msg) : Bool := ofB m.verb 10 65 90 && (decide (m.args.length ≤ 4) && m.args.all argB)
def headM (m : Msg) : List UInt8 := ls m.verb ++ (Lib.joinTail [32] (m.args.map ls) ++ [10])
def printR (m : Msg) : List UInt8 × Int := if goodM m = true ∧ (headM m).length + m.body.size ≤ 9192 then (headM m ++ ls m.body, 0) else ([], 1)
theorem printR_bad {m : Msg} (h : goodM m = false) : printR m = ([], 1) := by unfold printR; rw [h]; rfl
theorem of_size {s : ByteArray} {n lo hi : Nat} (h : ofB s n lo hi = true) : s.size ≤ n ∧ 1 ≤ s.size := by
  simp [ofB] at h
  exact ⟨h.2.2, h.2.1⟩
theorem lens_le (l : List ByteArray) (k : Nat) (h : ∀ a ∈ l, a.size ≤ k) : Lib.lens (l.map ls) ≤ k * l.length := by
  induction l with
  | nil => exact Nat.zero_le _
  | cons a r ih =>
    have h1 := h a (by simp)
    have h2 := ih (fun b hb => h b (by simp [hb]))
    have e : Lib.lens ((a :: r).map ls) = a.size + Lib.lens (r.map ls) := by
      simp only [Lib.lens, List.map_cons, List.sum_cons, ls_len]
    rw [e, List.length_cons, Nat.mul_add]
    omega
theorem head_len {m : Msg} (h : goodM m = true) : (headM m).length ≤ 815 ∧ m.verb.size ≤ 10 ∧ m.args.length ≤ 4 ∧ ∀ a ∈ m.args, a.size ≤ 200 := by
  simp only [goodM, Bool.and_eq_true, decide_eq_true_eq, List.all_eq_true] at h
  obtain ⟨h1, h2, h3⟩ := h
  have z1 := (of_size h1).1
  have z3 : ∀ a ∈ m.args, a.size ≤ 200 := fun a ha => by have := (of_size (h3 a ha)).1; omega
  have z4 := lens_le m.args 200 z3
  refine ⟨?_, by omega, h2, z3⟩
  unfold headM
  simp only [List.length_append, Lib.joinTail_length, List.length_map, List.length_cons, List.length_nil, ls_len]
  omega
theorem info9 : (Tryd.prog.info? 9).map (fun i => (i.zero, i.size, i.bytes)) = some (some (.string ⟨#[]⟩), 1, 16) := by kernel_rfl
theorem strs_one (l : List ByteArray) : ∀ u ∈ strs l, u.oneCell' = true := by
  intro u hu
  obtain ⟨c, _, rfl⟩ := List.mem_map.1 hu
  rfl
theorem strs_len (l : List ByteArray) : (strs l).length = l.length := List.length_map ..
def msgC (m : Msg) (v : Value) : Array Value := #[.string m.verb, v, .string m.body]
set_option maxRecDepth 100000 in
set_option maxHeartbeats 2000000 in
theorem printP (I : Img) (M : List Res) (w : World) (A : Option Addr) (c : Nat) (m : Msg) (hst : St I M w) (hA : Cells I A (strs m.args)) (hz : MsgSz m) :
    Calls Tryd.prog 10 #[.agg (msgC m (.slice A m.args.length c))] w (Ret I (fun v J M' => I = J ∧ M' = M ∧ v = .tuple #[.string (bsA (printR m).1), .int .i64 (printR m).2])) := by
  obtain ⟨hz1, hz2, hz3, hz4⟩ := hz
  have hs := hst.alloc 30 (msgC m (.slice A m.args.length c))
  obtain ⟨b, hb⟩ : ∃ b, b = w.heap.size := ⟨_, rfl⟩
  rw [← hb] at hs
  have HA := Lib.hid hA
  have HZ3 := Lib.hid hz3
  clear hst hA hz3
  go_enter Tryd.func10, Tryd.ntmps10
  go_upto_region 1 with fail
  rw [← hb]
  clear hb
  generalize World.alloc _ _ = W at hs ⊢
  obtain ⟨y0, y1, y2, -⟩ := Blk.three (show Blk W b 30 #[.string m.verb, .slice A m.args.length c, .string m.body] from hs.head)
  cases hv : ofB m.verb 10 65 90
  · have HC : Hid (Calls Tryd.prog 22 #[.string m.verb, .int .i64 10, .int .i32 65, .int .i32 90] W fun e w' => e = .returned (.bool false) ∧ Below W.heap.size W w') := Lib.hid (by have := ofP m.verb 10 65 90 W hz1 (by decide); rw [hv] at this; exact this)
    have HE := Lib.hid (printR_bad (show goodM m = false by simp [goodM, hv]))
    clear hv
    go_wp2_with fail
    go_at_call 22
    refine HC.out.mono ?_
    rintro e w2 ⟨rfl, hb⟩
    have HS := Lib.hid (hs.below hb)
    clear hs hb y0 y1 y2
    go_wp2; go_ret2; exact Ret.mk (.refl I) HS.out.drop ⟨rfl, rfl, by rw [HE.out]; rfl⟩
  have HC : Hid (Calls Tryd.prog 22 #[.string m.verb, .int .i64 10, .int .i32 65, .int .i32 90] W fun e w' => e = .returned (.bool true) ∧ Below W.heap.size W w') := Lib.hid (by have := ofP m.verb 10 65 90 W hz1 (by decide); rw [hv] at this; exact this)
  have HV := Lib.hid hv
  clear hv
  go_wp2_with fail
  go_at_call 22
  refine HC.out.mono ?_
  rintro e w2 ⟨rfl, hb⟩
  replace hs := hs.below hb
  clear hb HC y0 y1 y2
  obtain ⟨y0, y1, y2, -⟩ := Blk.three (show Blk w2 b 30 #[.string m.verb, .slice A m.args.length c, .string m.body] from hs.head)
  by_cases hn : m.args.length ≤ 4
  rotate_left
  · have HE := Lib.hid (printR_bad (show goodM m = false by simp [goodM, hn]))
    have hn' : (4 : Int) < m.args.length := by omega
    have HS := Lib.hid hs
    clear hn hs
    go_wp2; go_ret2; exact Ret.mk (.refl I) HS.out.drop ⟨rfl, rfl, by rw [HE.out]; rfl⟩
  have hn' : (m.args.length : Int) ≤ 4 := by omega
  have hn2 : decide ((4 : Int) < m.args.length) = false := decide_eq_false (by omega)
  have HC := Lib.hid (containsP I _ w2 A c m.args hs HA.out HZ3.out hz4)
  cases ha : m.args.all argB
  · have HE := Lib.hid (printR_bad (show goodM m = false by simp [goodM, ha]))
    rw [ha] at HC
    clear ha hs
    go_wp2_with fail
    go_at_call 23
    refine HC.out.mono ?_
    rintro e w3 ⟨_, _, _, rfl, _, hs, rfl, rfl, rfl⟩
    have HS := Lib.hid hs
    clear hs y0 y1 y2
    go_wp2; go_ret2; exact Ret.mk (.refl I) HS.out.drop ⟨rfl, rfl, by rw [HE.out]; rfl⟩
  have hg : goodM m = true := by simp [goodM, HV.out, hn, ha]
  rw [ha] at HC
  clear ha hs
  go_wp2_with fail
  go_at_call 23
  refine HC.out.mono ?_
  rintro e w3 ⟨_, _, _, rfl, _, hs, rfl, rfl, rfl⟩
  clear y0 y1 y2 HC
  obtain ⟨hl1, hl2, hl3, -⟩ := head_len hg
  have HG := Lib.hid hg
  have hs1 := St.fresh hs (hs.grow (.cells #[.string m.verb] 9)) (World.ownsRow_lit (base := w3.heap.size) (e := 9) (size := 1) w3 #[.string m.verb] 1 (Nat.le_refl _) (by decide) rfl)
  have HSRC := Lib.hid (Cells.src (P := Tryd.prog) (t := 22) (e := 9) (size := 1) HA.out (hs.grow (.cells #[.string m.verb] 9)) (by rw [strs_len, Nat.mul_one]) (by omega) Tryd.underlying22 c (strs_one m.args))
  have HS1 := Lib.hid hs1
  obtain ⟨i9, hi9, hq0, hq1, hq2⟩ := info_parts info9
  obtain ⟨y0, y1, y2, -, -, -, hbl⟩ := Blk.three (show Blk w3 b 30 #[.string m.verb, .slice A m.args.length c, .string m.body] from hs.head)
  clear hs hs1 hg
  go_wp2_with (at_builtin; (refine wpList_append_src _ rfl _ _ 22 22 rfl 0 9 i9 (.string ⟨#[]⟩) 1 16 Tryd.underlying22 hi9 hq0 hq1 hq2 rfl _ 1 [.string m.verb] rfl (HS1.out.at 0 rfl) _ m.args.length (strs m.args) rfl HSRC.out (by unfold maxLen; omega) (by omega) (Nat.zero_le _) ?_); intro v' w' hown hgrow hat; have HG2 := Lib.hid (show _ ∧ _ ∧ _ from ⟨hown, hgrow, hat⟩); obtain ⟨A', c', rfl⟩ := own_form hown; clear hown hgrow hat)
  obtain ⟨hown, hgrow, hat⟩ := HG2.out
  have hs2 := HS1.out.grown hgrow hown hat
  have HS2 := Lib.hid hs2.drop
  obtain ⟨g, hg, hcells, hcap, hlt⟩ : ∃ g, A' = some ⟨g, 0, none⟩ ∧ (∀ (j : Nat) x, (m.verb :: m.args)[j]? = some x → w'.cell? ⟨g, 0 + j, none⟩ = some (.string x)) ∧ 1 + m.args.length ≤ c' ∧ g < w'.heap.size := by
    have hc' := (own_cap hown).2
    rcases hown.2 with ⟨_, hn⟩ | ⟨g, cap, cur, hv, _, hg, _⟩
    · omega
    · injection hv with hA
      subst hA
      refine ⟨g, rfl, fun j x hx => ?_, hc', (Array.getElem?_eq_some_iff.1 hg).1⟩
      have h1 := hown.cells (g := g) rfl j (.string x) (by
        have : [Value.string m.verb] ++ strs m.args = strs (m.verb :: m.args) := rfl
        rw [this]
        show (List.map Value.string (m.verb :: m.args))[j]? = _
        rw [List.getElem?_map, hx]
        rfl)
      rw [add_at] at h1
      exact h1
  subst hg
  have hjl := Lib.join_cons (ls m.verb) (m.args.map ls) [32]
  have hj := Tryd.strings_Join g 0 c' (m.verb :: m.args) ⟨#[32]⟩ w' hcells hlt (by rw [List.length_cons]; omega) (by rw [List.length_cons]; omega) (by
    show (Lib.join ((m.verb :: m.args).map ls) [32]).length ≤ _
    rw [List.map_cons, hjl]
    have : (headM m).length = (ls m.verb ++ Lib.joinTail [32] (m.args.map ls)).length + 1 := by simp [headM]; omega
    omega)
  have hlen : (m.verb :: m.args).length = 1 + m.args.length := by rw [List.length_cons]; omega
  rw [hlen] at hj
  have hDD : (⟨(Lib.join ((m.verb :: m.args).map (·.data.toList)) [32]).toArray⟩ : ByteArray) = bsA (ls m.verb ++ Lib.joinTail [32] (m.args.map ls)) := congrArg bsA hjl
  rw [show ByteArray.data ⟨#[32]⟩ = #[32] from rfl] at hj
  rw [show (#[32] : Array UInt8).toList = [32] from rfl, hDD] at hj
  have HC := Lib.hid hj
  have hD1 : (bsA (ls m.verb ++ Lib.joinTail [32] (m.args.map ls))).size + 1 = (headM m).length := by rw [bsA_size]; simp [headM]; omega
  have HD := Lib.hid (show headM m = ls (bsA (ls m.verb ++ Lib.joinTail [32] (m.args.map ls))) ++ [10] from by
    show ls m.verb ++ (Lib.joinTail [32] (m.args.map ls) ++ [10]) = (ls m.verb ++ Lib.joinTail [32] (m.args.map ls)) ++ [10]
    rw [List.append_assoc])
  generalize bsA (ls m.verb ++ Lib.joinTail [32] (m.args.map ls)) = D at HC hD1 HD
  clear hj hjl hDD hcells hown hgrow hat hs2 HS1 HSRC HG2
  go_at_call 25
  refine HC.out.mono ?_
  rintro e w4 ⟨rfl, hb⟩
  have hs := HS2.out.below hb
  clear hb HC y0 y1 y2 hbl
  obtain ⟨y0, y1, y2, -⟩ := Blk.three (show Blk w4 b 30 #[.string m.verb, .slice A m.args.length c, .string m.body] from hs.head)
  have HS := Lib.hid hs
  clear hs
  by_cases hfit : (headM m).length + m.body.size ≤ 9192
  · have HE := Lib.hid (show printR m = (headM m ++ ls m.body, 0) from if_pos ⟨HG.out, hfit⟩)
    have hf1 : (m.body.size : Int) ≤ 9192 - ((D.size : Int) + 1) := by omega
    have hDs : D.size ≤ 814 := by omega
    have hbs : (m.body.size : Int) ≤ 9192 := by omega
    have HF := Lib.hid hf1
    have HBS := Lib.hid hbs
    clear hfit hD1 hl1 hf1 hbs
    go_upto_if 34 with fail
    have hd := HF.out
    go_upto_region 6 with fail
    have hbs : m.body.size ≤ 100000 := by have := HBS.out; omega
    go_wp2
    go_ret2
    refine Ret.mk (.refl I) HS.out.drop ⟨rfl, rfl, ?_⟩
    rw [HE.out]
    exact congrArg (fun x => Value.tuple #[.string x, .int .i64 0]) (ls_inj (by rw [HD.out]; simp [app_ls]))
  · have HE := Lib.hid (show printR m = ([], 1) from if_neg (fun h => hfit h.2))
    have hf1 : 9192 - ((D.size : Int) + 1) < m.body.size := by omega
    have hDs : D.size ≤ 814 := by omega
    have HF := Lib.hid hf1
    clear hfit hD1 hl1 hf1
    go_upto_if 34 with fail
    have hd := HF.out
    go_wp2; go_ret2; exact Ret.mk (.refl I) HS.out.drop ⟨rfl, rfl, by rw [HE.out]; rfl⟩
end Go.Proofs.YthmamheegkppdaaDoor
