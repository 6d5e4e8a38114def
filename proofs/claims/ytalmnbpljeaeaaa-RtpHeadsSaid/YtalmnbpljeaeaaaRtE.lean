/- RtpHeads. -/
import Derived.Test.YtalmnbpljeaeaaaRtD
namespace Go.Proofs.Ytalmnbpljeaeaaa
open Go.RowKit
set_option linter.unusedSimpArgs false

def Yes (I : Img) (M : List Res) : Ending → World → Prop := Ret I (fun v _ M' => v = .bool true ∧ M' = M)
theorem pkB28 : (Try.prog.underlying 28).any (fun d => match d with | .struct _ => true | _ => false) = true := by kernel_rfl
theorem pkD28 : ∃ fs, Try.prog.underlying 28 = some (.struct fs) := by
  have h := pkB28
  cases e : Try.prog.underlying 28 with
  | none => rw [e] at h; cases h
  | some d => rw [e] at h; cases d <;> first | exact ⟨_, rfl⟩ | cases h
theorem pkI28 : (Try.prog.info? 28).map (·.size) = some 9 := by kernel_rfl
theorem headP2 (I : Img) (M : List Res) (w : World) (A : Option Addr) (c : Nat) (b : List UInt8) (n e : Int) (h : headS b = (n, e)) (hst : St I M w) (hb : Byts I A b) (hl : b.length ≤ 140737488351232) :
    Calls Try.prog 5 #[.slice A b.length c] w fun v w' => v = .returned (.tuple #[.int .i64 n, .int .i64 e]) ∧ St I M w' := by
  refine (headP I M w A c b hst hb hl).mono ?_
  rintro v w' ⟨rfl, k, rfl⟩
  rw [h]
  exact ⟨rfl, hst.drewN k⟩
theorem headR2 (I : Img) (M : List Res) (w : World) (A : Option Addr) (c : Nat) (b : List UInt8) (n e : Int) (h : headS b = (n, e)) (hst : St I M w) (hb : Byts I A b) (hl : b.length ≤ 140737488351232) :
    Calls Try.prog 6 #[.slice A b.length c] w fun v w' => v = .returned (.tuple #[.int .i64 n, .int .i64 e]) ∧ St I M w' := by
  refine (headR I M w A c b hst hb hl).mono ?_
  rintro v w' ⟨rfl, k, rfl⟩
  rw [h]
  exact ⟨rfl, hst.drewN k⟩
set_option maxRecDepth 8000 in
set_option maxHeartbeats 4000000 in
theorem law3 (I : Img) (M : List Res) (w : World) (A : Option Addr) (c : Nat) (b : List UInt8) (p : Pf) (cA eA pA : Option Addr) (cc ec pc : Nat) (cs : List Int) (xs : List XD) (bs : List UInt8) (id : Int) (hst : St I M w) (hb : Byts I A b) (hl : b.length ≤ 140737488351232)
    (hC : Cells I cA (u32s cs)) (hX : Exts I eA xs) (hP : Byts I pA bs) (hlc : cs.length * 4 ≤ 140737488351232) (hlx : xs.length * 32 ≤ 140737488351232) (hlp : bs.length ≤ 140737488351232) :
    Calls Try.prog 3 #[.slice A b.length c, .agg (pfC p (.slice cA cs.length cc) (.slice eA xs.length ec) (.slice pA bs.length pc)), .int .i64 id] w (Yes I M) := by
  have HA := Lib.hid (And.intro hb (And.intro hC (And.intro hX hP)))
  rcases hhd : headS b with ⟨n, e⟩
  have HHD := Lib.hid hhd
  have hst1 := hst.alloc 28 (pfC p (.slice cA cs.length cc) (.slice eA xs.length ec) (.slice pA bs.length pc))
  obtain ⟨fs, hd⟩ := pkD28
  clear hst hb hC hX hP hhd
  go_enter Try.func3, Try.ntmps3
  go_wp2_with fail
  refine (awakeC I _ _ hst1).mono ?_
  clear hst1
  rintro e1 w1 ⟨_, _, _, rfl, _, hs, rfl, rfl, rfl⟩
  go_wp2_with fail
  refine (headP2 I _ w1 A c b n e HHD.out hs HA.out.1 hl).mono ?_
  clear hs
  rintro e2 w2 ⟨rfl, hs⟩
  go_wp2_with fail
  refine (headR2 I _ w2 A c b n e HHD.out hs HA.out.1 hl).mono ?_
  clear hs
  rintro e3 w3 ⟨rfl, hs⟩
  have hb1 : Blk w3 w.heap.size 28 _ := hs.at 0 rfl
  have H3 := Lib.hid hs
  clear hs
  go_upto_region 6 with (first | refine wpList_load_row rfl 28 (.tmp 4) rfl w.heap.size rfl 28 _ (0, 0) _ hb1 hd rfl pkI28 ?_ | (go_at_call 8; refine (theirsC I _ w3 p cA eA pA cc ec pc cs xs bs H3.out HA.out.2.1 HA.out.2.2.1 HA.out.2.2.2 hlc hlx hlp).mono ?_; clear H3 hb1; rintro e4 w4 ⟨_, J4, _, rfl, hle4, hs4, rfl, cv, pv, A4, c4, ys, rfl, hkeys, hY⟩; have HY := Lib.hid (And.intro hkeys (And.intro hY (And.intro hle4 hs4))); clear hkeys hY hle4 hs4) | (go_at_call 7; refine (findC J4 _ w4 p cv pv A4 c4 ys id HY.out.2.2.2 HY.out.2.1 (by have := congrArg List.length HY.out.1; simp at this; omega)).mono ?_; rintro e5 w5 ⟨_, _, _, rfl, hle5, hs5, rfl, A5, c5, rfl, rfl⟩))
  rw [hit_keys HY.out.1 id] at hs5 ⊢
  obtain ⟨J5, hle6, hs6, hby5⟩ := hs5.freezeRow
  have hb1 : Blk w5 w.heap.size 28 _ := hs6.at 0 rfl
  have H6 := Lib.hid (And.intro (HY.out.2.2.1.trans hle6) (And.intro hs6 hby5))
  clear hs5 hle5 hle6 hs6 hby5
  go_upto_region 7 with (first | refine wpList_load_row rfl 28 (.tmp 4) rfl w.heap.size rfl 28 _ (0, 0) _ hb1 hd rfl pkI28 ?_ | (go_at_call 9; refine (refFindC J5 _ w5 p _ _ eA ec xs id H6.out.2.1 (HA.out.2.2.1.mono H6.out.1) (by omega)).mono ?_; clear hb1; rintro e6 w6 ⟨_, _, _, rfl, _, hs7, rfl, rfl, A7, c7, rfl, hby7, hl7⟩))
  have hc1 := (show Byts J5 A5 ((hit xs id).getD []) from H6.out.2.2).conv hs7 Try.underlying22 Try.underlying5 Try.underlying9 c5
  have hc2 := hby7.conv hs7 Try.underlying22 Try.underlying5 Try.underlying9 c7
  have HS := Lib.hid hs7
  clear hs7 hby7 hl7
  generalize (hit xs id).getD [] = d at *
  generalize (hit xs id).isSome = ok at *
  cases ok
  all_goals
    go_wp2
    go_returns
    exact Ret.mk H6.out.1 HS.out.drop ⟨rfl, rfl⟩
end Go.Proofs.Ytalmnbpljeaeaaa
