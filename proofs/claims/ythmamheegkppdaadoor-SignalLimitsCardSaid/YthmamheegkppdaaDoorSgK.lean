/- signal.Digits; awake; SignalPrints, SignalParses. -/
import Derived.Test.YthmamheegkppdaaDoorSgJ
import Derived.Lib.AppendIntMem
namespace Go.Proofs.YthmamheegkppdaaDoor
open Go.RowKit
set_option linter.unusedSimpArgs false

def Tab10 (I : Img) : Prop := ∀ (M : List Res) (w : World), St I M w → Lib.TabIs Tryd.prog w "internal/strconv.uint64pow10" .u64 Lib.pow10Tab
theorem Tab10.mono {I J : Img} (h : Tab10 I) (hl : I.le J) : Tab10 J := fun M w hs => h M w (hs.less hl)
def digS (n : Int) : List UInt8 := if n < 0 then [] else Lib.itoa n
theorem digitsP (I : Img) (M : List Res) (w : World) (n : Int) (hst : St I M w) (ht : Tab10 I) (h0 : -9223372036854775808 ≤ n) (h1 : n ≤ 9223372036854775807) :
    Calls Tryd.prog 19 #[.int .i64 n] w (Ret I (fun v J M' => I = J ∧ M' = M ∧ v = .string (bsA (digS n)))) := by
  by_cases hn : n < 0
  · have HE := Lib.hid (show digS n = [] from if_pos hn)
    go_enter Tryd.func19, Tryd.ntmps19
    go_wp2
    go_ret
    exact Ret.mk (.refl I) hst ⟨rfl, rfl, by rw [HE.out]; rfl⟩
  · have hn' : 0 ≤ n := by omega
    have HE := Lib.hid (show digS n = Lib.itoa n from if_neg hn)
    have HC := Lib.hid (show Calls Tryd.prog 32 #[.int .i64 n] w fun e w' => e = .returned (.string (bsA (Lib.itoa n))) ∧ Below w.heap.size w w' from (Tryd.strconv_Itoa n h0 h1 w (ht M w hst)).mono (by
      rintro e w' ⟨rfl, k, os, rfl⟩
      exact ⟨rfl, Lib.below_grow _ _ (Nat.le_refl _) _ _⟩))
    have HS := Lib.hid hst
    clear hn hst
    go_enter Tryd.func19, Tryd.ntmps19
    go_wp2_with fail
    go_at_call 32
    refine HC.out.mono ?_
    rintro e w' ⟨rfl, hb⟩
    have HS2 := Lib.hid (HS.out.below hb)
    go_wp2
    go_ret
    exact Ret.mk (.refl I) HS2.out ⟨rfl, rfl, by rw [HE.out]; rfl⟩
theorem parseAw : parseM [74, 79, 73, 78, 32, 97, 98, 99, 10, 98, 111, 100, 121] = (⟨bsA [74, 79, 73, 78], [bsA [97, 98, 99]], bsA [98, 111, 100, 121]⟩, 0) := by rfl
theorem digAw : digS 7 = [55] := by
  show Lib.itoa 7 = [55]
  unfold Lib.itoa
  rw [if_neg (by decide)]
  show Lib.decDigits 7 = [55]
  rw [Lib.decDigits_one (by decide)]
  rfl
set_option maxRecDepth 8000 in
set_option maxHeartbeats 1000000 in
theorem awakeP (I : Img) (M : List Res) (w : World) (mx : Int) (hst : St I M w) (hm : I.cell? ⟨0, 0, none⟩ = some (.int .i64 mx)) (ht : Tab10 I) : Calls Tryd.prog 8 #[] w (Ret I (fun v _ M' => v = .bool true ∧ M' = M)) := by
  have hp := parseP I M w ⟨#[74, 79, 73, 78, 32, 97, 98, 99, 10, 98, 111, 100, 121]⟩ mx hst hm (by decide)
  rw [show parseM (ls ⟨#[74, 79, 73, 78, 32, 97, 98, 99, 10, 98, 111, 100, 121]⟩) = _ from parseAw] at hp
  have HP := Lib.hid hp
  clear hp hst
  go_enter Tryd.func8, Tryd.ntmps8
  go_wp2_with fail
  go_at_call 13
  refine HP.out.mono ?_
  rintro e w2 ⟨_, J, _, rfl, hl, hs, rfl, A, c, rfl, -⟩
  clear HP
  have hs3 := hs.alloc 30 #[.string (bsA [74, 79, 73, 78]), .slice A 1 c, .string (bsA [98, 111, 100, 121])]
  have HD := Lib.hid (digitsP J _ _ 7 hs3 (ht.mono hl) (by decide) (by decide))
  rw [digAw] at HD
  have h1 : ((bsA [74, 79, 73, 78]).toList == [74, 79, 73, 78]) = true := by rw [ByteArray.toList_eq]; rfl
  have h2 : ((bsA [98, 111, 100, 121]).toList == [98, 111, 100, 121]) = true := by rw [ByteArray.toList_eq]; rfl
  have h3 : ((bsA [55]).toList == [55]) = true := by rw [ByteArray.toList_eq]; rfl
  clear hs hs3
  generalize bsA [74, 79, 73, 78] = s1 at *
  generalize bsA [98, 111, 100, 121] = s2 at *
  generalize bsA [55] = s3 at *
  dsimp only [msgC, List.length_cons, List.length_nil]
  go_wp2_with fail
  go_at_call 19
  refine HD.out.mono ?_
  rintro e w3 ⟨_, _, _, rfl, _, hs4, rfl, rfl, rfl⟩
  clear HD
  have HS := Lib.hid hs4
  clear hs4
  go_wp2
  go_ret
  exact Ret.mk hl HS.out.drop ⟨rfl, rfl⟩
theorem printR_k (m : Msg) : (printR m).2 = 0 ∨ (printR m).2 = 1 := by
  rcases printR_cases m with ⟨_, _, e⟩ | ⟨e, _⟩
  · exact .inl (by rw [e])
  · exact .inr (by rw [e])
set_option maxRecDepth 8000 in
set_option maxHeartbeats 1000000 in
theorem law3 (I : Img) (M : List Res) (w : World) (mx : Int) (A : Option Addr) (c : Nat) (m : Msg) (hst : St I M w) (hm : I.cell? ⟨0, 0, none⟩ = some (.int .i64 mx)) (ht : Tab10 I) (hA : Cells I A (strs m.args)) (hz : MsgSz m) (hl : m.args.length * 16 ≤ 140737488351232) :
    Calls Tryd.prog 3 #[.agg (msgC m (.slice A m.args.length c))] w (Ret I (fun v _ _ => v = .bool true)) := by
  have hs := hst.alloc 24 (msgC m (.slice A m.args.length c))
  obtain ⟨b, hb⟩ : ∃ b, b = w.heap.size := ⟨_, rfl⟩
  rw [← hb] at hs
  have HA := Lib.hid hA
  clear hst hA
  go_enter Tryd.func3, Tryd.ntmps3
  go_upto_region 1 with fail
  rw [← hb]
  clear hb
  generalize World.alloc _ _ = W at hs ⊢
  have HC := Lib.hid (awakeP I _ W mx hs hm ht)
  clear hs
  go_wp2_with fail
  go_at_call 8
  refine HC.out.mono ?_
  rintro e w1 ⟨_, J1, _, rfl, hl1, hs, rfl, rfl⟩
  clear HC
  have HC := Lib.hid (printRef J1 _ w1 A c m hs (HA.out.mono hl1) hz)
  obtain ⟨y0, y1, y2, -⟩ := Blk.three (show Blk w1 b 24 #[.string m.verb, .slice A m.args.length c, .string m.body] from hs.head)
  clear hs
  go_wp2_with fail
  go_at_call 9
  refine HC.out.mono ?_
  rintro e w2 ⟨_, _, _, rfl, _, hs, rfl, rfl, rfl⟩
  clear HC y0 y1 y2
  have HC := Lib.hid (theirsP J1 _ w2 A c m hs (HA.out.mono hl1) hl)
  obtain ⟨y0, y1, y2, -⟩ := Blk.three (show Blk w2 b 24 #[.string m.verb, .slice A m.args.length c, .string m.body] from hs.head)
  clear hs
  go_wp2_with fail
  go_at_call 11
  refine HC.out.mono ?_
  rintro e w3 ⟨_, J2, _, rfl, hl2, hs, rfl, A2, c2, rfl, hA2⟩
  clear HC y0 y1 y2
  have HC := Lib.hid (printP J2 _ w3 A2 c2 m hs hA2 hz)
  have HL := Lib.hid (hl1.trans hl2)
  clear hs hl1 hl2 hA2
  go_wp2_with fail
  go_at_call 10
  refine HC.out.mono ?_
  rintro e w4 ⟨_, _, _, rfl, _, hs, rfl, rfl, rfl⟩
  have HS := Lib.hid hs
  clear HC hs
  generalize bsA (printR m).1 = D
  generalize (printR m).2 = k
  go_wp2
  go_ret
  exact Ret.mk HL.out HS.out rfl
theorem parseM_len (l : List UInt8) : (parseM l).1.args.length ≤ 10000 := by
  unfold parseM
  split
  · exact Nat.zero_le _
  · split
    · obtain ⟨v, a, hv⟩ := splitC_ne 32 (cutC 10 l).1
      have h1 := (splitC_len 32 (cutC 10 l).1).1
      have h2 := (cutC_len 10 l).1
      rw [wordsM_of hv]
      rw [hv, List.length_cons] at h1
      show (a.map bsA).length ≤ _
      rw [List.length_map]
      omega
    · exact Nat.zero_le _
theorem zkeep {J : Img} {M : List Res} {w : World} {q1 q2 : Nat} {a1 a2 a3 b1 b2 b3 : Value} (h : St J (bk q2 30 #[b1, b2, b3] :: bk q1 24 #[a1, a2, a3] :: M) w) : w.cell? ⟨q1, 0, none⟩ = some a1 ∧ w.cell? ⟨q1, 1, none⟩ = some a2 ∧ w.cell? ⟨q1, 2, none⟩ = some a3 ∧ w.cell? ⟨q2, 0, none⟩ = some b1 ∧ w.cell? ⟨q2, 1, none⟩ = some b2 ∧ w.cell? ⟨q2, 2, none⟩ = some b3 := by
  obtain ⟨c0, c1, c2, -⟩ := Blk.three (show Blk w q2 30 #[b1, b2, b3] from h.head)
  obtain ⟨d0, d1, d2, -⟩ := Blk.three (show Blk w q1 24 #[a1, a2, a3] from h.at 1 rfl)
  exact ⟨d0, d1, d2, c0, c1, c2⟩
set_option maxRecDepth 8000 in
set_option maxHeartbeats 2000000 in
theorem law4 (I : Img) (M : List Res) (w : World) (mx : Int) (s : ByteArray) (hst : St I M w) (hm : I.cell? ⟨0, 0, none⟩ = some (.int .i64 mx)) (ht : Tab10 I) (hs : s.size ≤ maxLen) :
    Calls Tryd.prog 4 #[.string s] w (Ret I (fun v _ _ => v = .bool true)) := by
  have HC := Lib.hid (awakeP I _ w mx hst hm ht)
  clear hst
  go_enter Tryd.func4, Tryd.ntmps4
  go_wp2_with fail
  go_at_call 8
  refine HC.out.mono ?_
  rintro e w1 ⟨_, J1, _, rfl, hl1, hs1, rfl, rfl⟩
  clear HC
  have HC := Lib.hid (parseRef J1 _ w1 s hs1 hs)
  clear hs1
  go_wp2_with fail
  go_at_call 12
  refine HC.out.mono ?_
  rintro e w2 ⟨_, J2, _, rfl, hl2, hs2, rfl, A, c, rfl, hA⟩
  clear HC
  obtain ⟨P, hP⟩ : ∃ P, P = parseM (ls s) := ⟨_, rfl⟩
  have hPl : P.1.args.length ≤ 140737488351232 := by
    have := parseM_len (ls s)
    rw [hP]
    omega
  rw [← hP] at hA ⊢
  obtain ⟨m, k⟩ := P
  simp only at hA hPl ⊢
  have hs3 := hs2.alloc 24 #[.string m.verb, .slice A m.args.length c, .string m.body]
  have HP := Lib.hid hP
  clear hs2 hP
  simp only [msgC]
  have hpc := parseP J2 _ _ s mx hs3 ((hl1.trans hl2).cell hm) hs
  rw [← HP.out] at hpc
  have HC := Lib.hid hpc
  clear hs3 hpc
  go_wp2_with fail
  go_at_call 13
  refine HC.out.mono ?_
  rintro e w4 ⟨_, J3, _, rfl, hl3, hs4, rfl, A2, c2, rfl, hA2⟩
  clear HC
  have hs5 := hs4.alloc 30 #[.string m.verb, .slice A2 m.args.length c2, .string m.body]
  simp only [msgC]
  have HA := Lib.hid (hA.mono hl3)
  have HA2 := Lib.hid hA2
  have HL := Lib.hid (hl1.trans (hl2.trans hl3))
  clear hs4 hA hA2 hl1 hl2 hl3
  go_wp2_with fail
  generalize World.alloc w4 _ = W5 at hs5 ⊢
  generalize w4.heap.size = q2 at hs5 ⊢
  generalize w2.heap.size = q1 at hs5 ⊢
  replace hs5 := hs5.drew
  refine wp_region_held_drew (S := (fun w' => w'.cell? ⟨q1, 0, none⟩ = some (.string m.verb) ∧ w'.cell? ⟨q1, 1, none⟩ = some (.slice A m.args.length c) ∧ w'.cell? ⟨q1, 2, none⟩ = some (.string m.body) ∧ w'.cell? ⟨q2, 0, none⟩ = some (.string m.verb) ∧ w'.cell? ⟨q2, 1, none⟩ = some (.slice A2 m.args.length c2) ∧ w'.cell? ⟨q2, 2, none⟩ = some (.string m.body))) (by kernel_rfl) (by (try dsimp only); exact zkeep hs5) (fun hHeld => ?_)
  generalize World.drew _ = W6 at hs5 hHeld ⊢
  refine wpAnyH_take (i := 0) (oi := _) (v := ?_) rfl (by kernel_rfl) (by kernel_rfl) (by kernel_rfl) (fun _ _ _ h => h) (Or.inl ⟨by rfl, ?_⟩) (by assumption) ?_
  rotate_left
  · (intro w hSw; (try dsimp only at hSw); go_simp; try with_reducible rfl)
  try simp only [Act.put, List.getElem_toArray, List.getElem_cons_zero, List.getElem_cons_succ, List.setIfInBounds_toArray, List.set_cons_zero, List.set_cons_succ]
  refine wpAnyH_take (i := 1) (oi := _) (v := ?_) rfl (by kernel_rfl) (by kernel_rfl) (by kernel_rfl) (fun _ _ _ h => h) (Or.inl ⟨by rfl, ?_⟩) (by assumption) ?_
  rotate_left
  · (intro w hSw; (try dsimp only at hSw); go_simp; try with_reducible rfl)
  try simp only [Act.put, List.getElem_toArray, List.getElem_cons_zero, List.getElem_cons_succ, List.setIfInBounds_toArray, List.set_cons_zero, List.set_cons_succ]
  refine wpAnyH_take (i := 2) (oi := _) (v := ?_) rfl (by kernel_rfl) (by kernel_rfl) (by kernel_rfl) (fun _ _ _ h => h) (Or.inl ⟨by rfl, ?_⟩) (by assumption) ?_
  rotate_left
  · (intro w hSw; (try dsimp only at hSw); go_simp; try with_reducible rfl)
  try simp only [Act.put, List.getElem_toArray, List.getElem_cons_zero, List.getElem_cons_succ, List.setIfInBounds_toArray, List.set_cons_zero, List.set_cons_succ]
  refine wpAnyH_take (i := 3) (oi := _) (v := ?_) rfl (by kernel_rfl) (by kernel_rfl) (by kernel_rfl) (fun _ _ _ h => h) (Or.inl ⟨by rfl, ?_⟩) (by assumption) ?_
  rotate_left
  · (intro w hSw; (try dsimp only at hSw); go_simp; try with_reducible rfl)
  try simp only [Act.put, List.getElem_toArray, List.getElem_cons_zero, List.getElem_cons_succ, List.setIfInBounds_toArray, List.set_cons_zero, List.set_cons_succ]
  refine wpAnyH_take (i := 4) (oi := _) (v := ?_) rfl (by kernel_rfl) (by kernel_rfl) (by kernel_rfl) (fun _ _ _ h => h) (Or.inl ⟨by rfl, ?_⟩) (by assumption) ?_
  rotate_left
  · (intro w hSw; (try dsimp only at hSw); go_simp; try with_reducible rfl)
  try simp only [Act.put, List.getElem_toArray, List.getElem_cons_zero, List.getElem_cons_succ, List.setIfInBounds_toArray, List.set_cons_zero, List.set_cons_succ]
  refine wpAnyH_take (i := 6) (oi := _) (v := ?_) rfl (by kernel_rfl) (by kernel_rfl) (by kernel_rfl) (fun _ _ _ h => h) (Or.inl ⟨by rfl, ?_⟩) (by assumption) ?_
  rotate_left
  · (intro w hSw; (try dsimp only at hSw); go_simp; try with_reducible rfl)
  try simp only [Act.put, List.getElem_toArray, List.getElem_cons_zero, List.getElem_cons_succ, List.setIfInBounds_toArray, List.set_cons_zero, List.set_cons_succ]
  refine wpAnyH_ready (rs := [5]) (by kernel_rfl) (by simp) ?_
  refine (AllReadyH.cons (o := _) rfl (fun K hK => ?_) AllReadyH.nil)
  have hc := oursP J3 _ W6 m (.slice A2 m.args.length c2) ⟨_, _, _, rfl⟩ hs5
  have hc : Calls Tryd.prog 15 #[.agg #[.string m.verb, .slice A2 m.args.length c2, .string m.body]] W6 _ := hc
  go_simp
  refine hc.mono ?_
  clear hs5 hc
  rintro e w7 ⟨_, _, _, rfl, _, hs5, rfl, rfl, rfl⟩
  try clear hHeld
  refine hK.out _ _ (by (try dsimp only); exact zkeep hs5) (fun hHeld => ?_)
  clear hK K
  try simp only [Act.put, List.getElem_toArray, List.getElem_cons_zero, List.getElem_cons_succ, List.setIfInBounds_toArray, List.set_cons_zero, List.set_cons_succ]
  refine wpAnyH_ready (rs := [7]) (by kernel_rfl) (by simp) ?_
  refine (AllReadyH.cons (o := _) rfl (fun K hK => ?_) AllReadyH.nil)
  have hc := sameP J3 _ w7 A2 A c2 c m hs5 HA2.out HA.out hPl
  have hc : Calls Tryd.prog 14 #[.agg #[.string m.verb, .slice A2 m.args.length c2, .string m.body], .agg #[.string m.verb, .slice A m.args.length c, .string m.body]] w7 _ := hc
  go_simp
  refine hc.mono ?_
  clear hs5 hc
  rintro e w8 ⟨_, _, _, rfl, _, hs5, rfl, rfl, rfl⟩
  try clear hHeld
  refine hK.out _ _ (by (try dsimp only); exact zkeep hs5) (fun hHeld => ?_)
  clear hK K
  try simp only [Act.put, List.getElem_toArray, List.getElem_cons_zero, List.getElem_cons_succ, List.setIfInBounds_toArray, List.set_cons_zero, List.set_cons_succ]
  refine wpAnyH_take (i := 8) (oi := _) (v := ?_) rfl (by kernel_rfl) (by kernel_rfl) (by kernel_rfl) (fun _ _ _ h => h) (Or.inl ⟨by rfl, ?_⟩) (by assumption) ?_
  rotate_left
  · (intro w hSw; (try dsimp only at hSw); go_simp; try with_reducible rfl)
  try simp only [Act.put, List.getElem_toArray, List.getElem_cons_zero, List.getElem_cons_succ, List.setIfInBounds_toArray, List.set_cons_zero, List.set_cons_succ]
  refine wpAnyH_take (i := 9) (oi := _) (v := ?_) rfl (by kernel_rfl) (by kernel_rfl) (by kernel_rfl) (fun _ _ _ h => h) (Or.inl ⟨by rfl, ?_⟩) (by assumption) ?_
  rotate_left
  · (intro w hSw; (try dsimp only at hSw); go_simp; try with_reducible rfl)
  try simp only [Act.put, List.getElem_toArray, List.getElem_cons_zero, List.getElem_cons_succ, List.setIfInBounds_toArray, List.set_cons_zero, List.set_cons_succ]
  refine wpAnyH_done (by kernel_rfl) ?_ _
  go_wp2
  go_ret
  exact Ret.mk HL.out hs5 rfl
end Go.Proofs.YthmamheegkppdaaDoor
