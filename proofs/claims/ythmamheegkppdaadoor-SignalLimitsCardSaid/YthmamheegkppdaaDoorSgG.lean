/- signal.Parse. -/
import Derived.Test.YthmamheegkppdaaDoorSgF
import Derived.Test.YthmamheegkppdaaDoorCp
namespace Go.Proofs.YthmamheegkppdaaDoor
open Go.RowKit
set_option linter.unusedSimpArgs false

theorem strs_bsA_len (l : List (List UInt8)) : (strs (l.map bsA)).length = l.length := by simp [strs]
theorem splitP (h : ByteArray) (mx : Int) (w : World) (hs : h.size ≤ 100000) (hm : w.cell? ⟨0, 0, none⟩ = some (.int .i64 mx)) (v : List UInt8) (a : List (List UInt8)) (hv : splitC 32 (ls h) = v :: a) :
    Calls Tryd.prog 27 #[.string h, .string ⟨#[32]⟩] w fun e w' => e = .returned (.slice (some ⟨w.heap.size, 0, none⟩) (a.length + 1) (a.length + 1)) ∧ w' = w.alloc (.cells (strs ((v :: a).map bsA)).toArray 9) := by
  have hc := Tryd.strings_Split h ⟨#[32]⟩ mx w (by omega) hm (by decide)
  have h1 := Lib.splitB_all ⟨#[32]⟩ (by decide) 0 _ h rfl
  rw [split_bytes, hv] at h1 hc
  rw [List.length_map] at h1
  rw [← h1] at hc
  exact hc
def zeroM : Array Value := #[.string ⟨#[]⟩, .slice none 0 0, .string ⟨#[]⟩]
theorem res13 (w : World) (q : Nat) (a b v : Value) (n : Int) (tmps : Array Value) (ht : tmps[2]? = some (.pointer (some ⟨q, 0, none⟩))) (h3 : tmps[3]? = some (.int .i64 n)) (h : Blk w q 30 #[a, v, b]) :
    (results Tryd.f13 tmps).run Tryd.prog w = .ok (.tuple #[.agg #[a, v, b], .int .i64 n]) w := by
  obtain ⟨c0, c1, c2, _⟩ := Blk.three h
  simp [results, Tryd.results13, go_sem, ht, h3, c0, c1, c2]
theorem size30 : (Tryd.prog.info? 30).map (·.size) = some 3 := by kernel_rfl
theorem cut_parts (h : ByteArray) : (Lib.cut h.data.toList (ByteArray.data ⟨#[10]⟩).toList) = cutC 10 (ls h) := cut_one 10 (ls h)
theorem Cells.tail {I : Img} {g o : Nat} {x : Value} {l : List Value} (h : Cells I (some ⟨g, o, none⟩) (x :: l)) : Cells I (some ⟨g, o + 1, none⟩) l := by
  intro h0
  obtain ⟨g', o', e, hc⟩ := h (by simp)
  injection e with e
  injection e with e1 e2 _
  subst e1 e2
  refine ⟨g, o + 1, rfl, fun j hj => ?_⟩
  have := hc (j + 1) (by simp; omega)
  rw [Nat.add_assoc, Nat.add_comm 1 j, this]
  rfl
theorem cutC_len (c : UInt8) : ∀ l : List UInt8, (cutC c l).1.length ≤ l.length ∧ (cutC c l).2.1.length ≤ l.length
  | [] => ⟨Nat.le_refl _, Nat.le_refl _⟩
  | b :: l => by
    obtain ⟨h1, h2⟩ := cutC_len c l
    unfold cutC
    split
    · exact ⟨Nat.zero_le _, Nat.le_succ _⟩
    · exact ⟨Nat.succ_le_succ h1, Nat.le_succ_of_le h2⟩
theorem splitC_len (c : UInt8) : ∀ l : List UInt8, (splitC c l).length ≤ l.length + 1 ∧ ∀ x ∈ splitC c l, x.length ≤ l.length
  | [] => ⟨Nat.le_refl _, fun x hx => by obtain rfl := List.mem_singleton.1 hx; exact Nat.le_refl _⟩
  | b :: l => by
    obtain ⟨h1, h2⟩ := splitC_len c l
    unfold splitC
    split
    · refine ⟨Nat.succ_le_succ h1, fun x hx => ?_⟩
      rcases List.mem_cons.1 hx with rfl | hx
      · exact Nat.zero_le _
      · exact Nat.le_succ_of_le (h2 x hx)
    · obtain ⟨y, r, e⟩ := splitC_ne c l
      rw [e] at h1 h2 ⊢
      refine ⟨Nat.le_succ_of_le h1, fun x hx => ?_⟩
      rcases List.mem_cons.1 hx with rfl | hx
      · exact Nat.succ_le_succ (h2 y (by simp))
      · exact Nat.le_succ_of_le (h2 x (by simp [hx]))
def ParsedAs (J : Img) (p : Msg × Int) (v : Value) : Prop := ∃ (A : Option Addr) (c : Nat), v = .tuple #[.agg (msgC p.1 (.slice A p.1.args.length c)), .int .i64 p.2] ∧ Cells J A (strs p.1.args)
set_option maxRecDepth 100000 in
set_option maxHeartbeats 2000000 in
theorem parseP (I : Img) (M : List Res) (w : World) (s : ByteArray) (mx : Int) (hst : St I M w) (hm : I.cell? ⟨0, 0, none⟩ = some (.int .i64 mx)) (_hs : s.size ≤ maxLen) :
    Calls Tryd.prog 13 #[.string s] w (Ret I (fun v J M' => M' = M ∧ ParsedAs J (parseM (ls s)) v)) := by
  have hr := hst.alloc 30 zeroM
  obtain ⟨r, hrr⟩ : ∃ r, r = w.heap.size := ⟨_, rfl⟩
  rw [← hrr] at hr
  have HM := Lib.hid hm
  clear hst hm
  go_enter Tryd.func13, Tryd.ntmps13
  go_upto_region 1 with fail
  rw [← hrr]
  clear hrr
  change St I _ (w.alloc (.cells #[.string ⟨#[]⟩, .slice none 0 0, .string ⟨#[]⟩] 30)) at hr
  generalize World.alloc _ _ = W at hr ⊢
  by_cases hl : 9192 < s.size
  · have hl' : (9192 : Int) < s.size := by omega
    have HE := Lib.hid (show parseM (ls s) = (msg0, 3) from by unfold parseM; rw [if_pos (by rw [ls_len]; exact hl)])
    obtain ⟨y0, y1, y2, f0, f1, f2, -⟩ := Blk.three (show Blk W r 30 #[.string ⟨#[]⟩, .slice none 0 0, .string ⟨#[]⟩] from hr.head)
    have HS := Lib.hid (show St I (bk r 30 zeroM :: M) _ from ((hr.set 0 (.string ⟨#[]⟩)).set 1 (.slice none 0 0)).set 2 (.string ⟨#[]⟩))
    clear hl hr
    go_wp2
    refine bodyPost_ret (res13 _ _ _ _ _ _ _ rfl rfl HS.out.head) rfl ?_
    exact Ret.mk (.refl I) HS.out.drop ⟨rfl, by rw [HE.out]; exact ⟨none, 0, rfl, Cells.nil _ _⟩⟩
  have hl' : (s.size : Int) ≤ 9192 := by omega
  obtain ⟨hd, hhd⟩ : ∃ h, h = bsA (cutC 10 (ls s)).1 := ⟨_, rfl⟩
  obtain ⟨tl, htl⟩ : ∃ h, h = bsA (cutC 10 (ls s)).2.1 := ⟨_, rfl⟩
  obtain ⟨fd, hfd⟩ : ∃ h, h = (cutC 10 (ls s)).2.2 := ⟨_, rfl⟩
  obtain ⟨c1, c2⟩ := cutC_len 10 (ls s)
  rw [ls_len] at c1 c2
  have hds : hd.size ≤ 9192 := by rw [hhd, bsA_size]; omega
  have tls : tl.size ≤ 9192 := by rw [htl, bsA_size]; omega
  obtain ⟨v, a, hv⟩ := splitC_ne 32 (ls hd)
  obtain ⟨p1, p2⟩ := splitC_len 32 (ls hd)
  rw [hv, ls_len] at p1 p2
  have hwm : wordsM (ls s) = ⟨bsA v, a.map bsA, tl⟩ := by
    rw [wordsM_of (v := v) (a := a) (by rw [← hv, hhd]), htl]
    rfl
  have HC : Hid (Calls Tryd.prog 26 #[.string s, .string ⟨#[10]⟩] W fun e w' => e = .returned (.tuple #[.string hd, .string tl, .bool fd]) ∧ ∃ n, w' = W.drewN n) := by
    have h := Tryd.strings_Cut s ⟨#[10]⟩ mx W (by omega) (hr.cell HM.out)
    rw [cut_parts] at h
    rw [hhd, htl, hfd]
    exact h
  have HPE := Lib.hid (show parseM (ls s) = if fd = true ∧ (printR ⟨bsA v, a.map bsA, tl⟩).2 = 0 then (⟨bsA v, a.map bsA, tl⟩, 0) else (msg0, 2) from by
    unfold parseM
    rw [if_neg (by rw [ls_len]; exact hl), hwm, hfd])
  have HV := Lib.hid hv
  have HP1 := Lib.hid p1
  have HP2 := Lib.hid p2
  have HL := Lib.hid hl'
  clear hhd htl hfd c1 c2 hwm hl hv p1 p2
  go_upto_region 4 with (go_at_call 26; refine HC.out.mono ?_; rintro e w2 ⟨rfl, n, rfl⟩)
  have hr2 := hr.drewN n
  clear hr HC hl' HL
  generalize World.drewN W n = W2 at hr2 ⊢
  have HC := Lib.hid (splitP hd mx W2 (by omega) (hr2.cell HM.out) v a HV.out)
  obtain ⟨WL, hWL⟩ : ∃ L, L = (strs ((v :: a).map bsA)).toArray := ⟨_, rfl⟩
  rw [← hWL] at HC
  obtain ⟨J, hJ, hs3, ho⟩ := hr2.allocF 9 WL
  obtain ⟨x, hx⟩ : ∃ x, x = W2.heap.size := ⟨_, rfl⟩
  rw [← hx] at ho HC
  have hcells : Cells J (some ⟨x, 0, none⟩) (strs ((v :: a).map bsA)) := by
    have := Cells.ofBlk ho
    rwa [hWL] at this
  have HW0 := Lib.hid (show ∀ (M : List Res) (w : World), St J M w → w.cell? ⟨x, 0, none⟩ = some (.string (bsA v)) from fun M w h => by
    obtain ⟨g, o, e, hc⟩ := hcells (by simp [strs])
    injection e with e
    injection e with e1 e2 _
    subst e1 e2
    exact h.cell (hc 0 (by simp [strs])))
  have HTL := Lib.hid (show Cells J (some ⟨x, 1, none⟩) (strs (a.map bsA)) from hcells.tail)
  have HJ := Lib.hid hJ
  clear ho hcells hr2 hx hJ hWL
  go_upto_region 5 with (go_at_call 27; refine HC.out.mono ?_; rintro e w3 ⟨rfl, rfl⟩)
  generalize World.alloc W2 _ = W3 at hs3 ⊢
  clear HC
  replace hs3 := hs3.drew
  have hal : (a.length : Int) + 1 ≤ 20000 := by have := HP1.out; rw [List.length_cons] at this; omega
  obtain ⟨A2, hA2⟩ : ∃ A, A = (if a = [] then some (⟨x, 0, none⟩ : Addr) else some ⟨x, 1, none⟩) := ⟨_, rfl⟩
  have HA2 := Lib.hid hA2
  have HCA := Lib.hid (show Cells J A2 (strs (a.map bsA)) from by
    rw [hA2]
    split
    · rename_i h0
      rw [h0]
      exact Cells.nil _ _
    · exact HTL.out)
  clear hA2
  refine wp_region_held_drew (S := (fun w' => w'.cell? ⟨x, 0, none⟩ = some (.string (bsA v)))) (by kernel_rfl) (by (try dsimp only); first | exact HW0.out _ _ hs3 | exact HW0.out _ _ hs4 | exact HW0.out _ _ hs5) (fun hHeld => ?_)
  generalize World.drew _ = W4 at hs3 hHeld ⊢
  refine wpAnyH_take (i := 0) (oi := _) (v := ?_) rfl (by kernel_rfl) (by kernel_rfl) (by kernel_rfl) (fun _ _ _ h => h) (Or.inl ⟨by rfl, ?_⟩) (by assumption) ?_
  rotate_left
  · (intro w hSw; (try dsimp only at hSw); go_simp; try with_reducible rfl)
  try simp only [Act.put, List.getElem_toArray, List.getElem_cons_zero, List.getElem_cons_succ, List.setIfInBounds_toArray, List.set_cons_zero, List.set_cons_succ]
  refine wpAnyH_take (i := 1) (oi := _) (v := ?_) rfl (by kernel_rfl) (by kernel_rfl) (by kernel_rfl) (fun _ _ _ h => h) (Or.inl ⟨by rfl, ?_⟩) (by assumption) ?_
  rotate_left
  · (intro w hSw; (try dsimp only at hSw); go_simp; try with_reducible rfl)
  try simp only [Act.put, List.getElem_toArray, List.getElem_cons_zero, List.getElem_cons_succ, List.setIfInBounds_toArray, List.set_cons_zero, List.set_cons_succ]
  refine wpAnyH_take (i := 2) (oi := _) (v := ?_) rfl (by kernel_rfl) (by kernel_rfl) (by kernel_rfl) (fun _ _ _ h => h) (Or.inl ⟨by rfl, ?_⟩) (by assumption) ?_
  rotate_left
  · (intro w hSw; (try dsimp only at hSw); go_simp; try with_reducible rfl)
  try simp only [Act.put, List.getElem_toArray, List.getElem_cons_zero, List.getElem_cons_succ, List.setIfInBounds_toArray, List.set_cons_zero, List.set_cons_succ]
  refine wpAnyH_take (i := 3) (oi := _) (v := ?_) rfl (by kernel_rfl) (by kernel_rfl) (by kernel_rfl) (fun _ _ _ h => h) (Or.inl ⟨by rfl, ?_⟩) (by assumption) ?_
  rotate_left
  · (intro w hSw; (try dsimp only at hSw); go_simp; try with_reducible rfl)
  try simp only [Act.put, List.getElem_toArray, List.getElem_cons_zero, List.getElem_cons_succ, List.setIfInBounds_toArray, List.set_cons_zero, List.set_cons_succ]
  refine wpAnyH_take (i := 4) (oi := _) (v := ?_) rfl (by kernel_rfl) (by kernel_rfl) (by kernel_rfl) (fun _ _ _ h => h) (Or.inl ⟨by rfl, ?_⟩) (by assumption) ?_
  rotate_left
  · (intro w hSw; (try dsimp only at hSw); go_simp; rw [if_pos (by omega), ← HA2.out])
  try simp only [Act.put, List.getElem_toArray, List.getElem_cons_zero, List.getElem_cons_succ, List.setIfInBounds_toArray, List.set_cons_zero, List.set_cons_succ]
  refine wpAnyH_take (i := 5) (oi := _) (v := ?_) rfl (by kernel_rfl) (by kernel_rfl) (by kernel_rfl) (fun _ _ _ h => h) (Or.inl ⟨by rfl, ?_⟩) (by assumption) ?_
  rotate_left
  · (intro w hSw; (try dsimp only at hSw); go_simp; try with_reducible rfl)
  try simp only [Act.put, List.getElem_toArray, List.getElem_cons_zero, List.getElem_cons_succ, List.setIfInBounds_toArray, List.set_cons_zero, List.set_cons_succ]
  refine wpAnyH_take (i := 6) (oi := _) (v := ?_) rfl (by kernel_rfl) (by kernel_rfl) (by kernel_rfl) (fun _ _ _ h => h) (Or.inl ⟨by rfl, ?_⟩) (by assumption) ?_
  rotate_left
  · (intro w hSw; (try dsimp only at hSw); go_simp; try with_reducible rfl)
  try simp only [Act.put, List.getElem_toArray, List.getElem_cons_zero, List.getElem_cons_succ, List.setIfInBounds_toArray, List.set_cons_zero, List.set_cons_succ]
  refine wpAnyH_ready (rs := [7]) (by kernel_rfl) (by simp) ?_
  refine (AllReadyH.cons (o := _) rfl (fun K hK => ?_) AllReadyH.nil)
  go_simp
  have hs4 := hs3.alloc 30 zeroM
  try clear hHeld
  refine hK.out _ _ (by (try dsimp only); first | exact HW0.out _ _ hs3 | exact HW0.out _ _ hs4 | exact HW0.out _ _ hs5) (fun hHeld => ?_)
  clear hK K
  try simp only [Act.put, List.getElem_toArray, List.getElem_cons_zero, List.getElem_cons_succ, List.setIfInBounds_toArray, List.set_cons_zero, List.set_cons_succ]
  refine wpAnyH_ready (rs := [8]) (by kernel_rfl) (by simp) ?_
  refine (AllReadyH.cons (o := _) rfl (fun K hK => ?_) AllReadyH.nil)
  go_simp
  have hs5 := hs3.alloc 30 #[.string (bsA v), .slice A2 a.length a.length, .string tl]
  clear hs4 hs3
  try clear hHeld
  refine hK.out _ _ (by (try dsimp only); first | exact HW0.out _ _ hs3 | exact HW0.out _ _ hs4 | exact HW0.out _ _ hs5) (fun hHeld => ?_)
  clear hK K
  try simp only [Act.put, List.getElem_toArray, List.getElem_cons_zero, List.getElem_cons_succ, List.setIfInBounds_toArray, List.set_cons_zero, List.set_cons_succ]
  refine wpAnyH_done (by kernel_rfl) ?_ _
  generalize World.alloc W4 _ = W5 at hs5 ⊢
  generalize W4.heap.size = y at hs5 ⊢
  clear hHeld
  obtain ⟨y0, y1, y2, -⟩ := Blk.three (show Blk W5 y 30 #[.string (bsA v), .slice A2 a.length a.length, .string tl] from hs5.head)
  have hlen : (a.map bsA).length = a.length := List.length_map ..
  have hpr := printP J _ W5 A2 a.length ⟨bsA v, a.map bsA, tl⟩ hs5 HCA.out ⟨by
      rw [bsA_size]
      have := HP2.out v (by simp)
      unfold maxLen; omega, by unfold maxLen; show tl.size ≤ _; omega, fun b hb => by
      obtain ⟨z, hz, rfl⟩ := List.mem_map.1 hb
      have := HP2.out z (by simp [hz])
      rw [bsA_size]
      unfold maxLen; omega, by
      have := HP1.out
      rw [List.length_cons] at this
      show (a.map bsA).length ≤ _
      rw [hlen]; omega⟩
  simp only [hlen] at hpr
  have HC : Hid (Calls Tryd.prog 10 #[.agg #[.string (bsA v), .slice A2 a.length a.length, .string tl]] W5 _) := Lib.hid hpr
  have HS5 := Lib.hid hs5
  clear hpr hs5
  go_wp2_with fail
  go_at_call 10
  refine HC.out.mono ?_
  rintro e w6 ⟨_, _, _, rfl, _, hs6, rfl, rfl, rfl⟩
  clear y0 y1 y2 HC HS5
  obtain ⟨y0, y1, y2, -⟩ := Blk.three (show Blk w6 y 30 #[.string (bsA v), .slice A2 a.length a.length, .string tl] from hs6.head)
  obtain ⟨z0, z1, z2, f0, f1, f2, -⟩ := Blk.three (show Blk w6 r 30 #[.string ⟨#[]⟩, .slice none 0 0, .string ⟨#[]⟩] from hs6.at 1 rfl)
  have HS0 := Lib.hid (show St J (bk y 30 _ :: bk r 30 zeroM :: M) _ from ((hs6.set1 0 (.string ⟨#[]⟩)).set1 1 (.slice none 0 0)).set1 2 (.string ⟨#[]⟩))
  have HS1 := Lib.hid (show St J (bk y 30 _ :: bk r 30 #[.string (bsA v), .slice A2 a.length a.length, .string tl] :: M) _ from ((hs6.set1 0 (.string (bsA v))).set1 1 (.slice A2 a.length a.length)).set1 2 (.string tl))
  clear hs6
  obtain ⟨k, hk⟩ : ∃ k, k = (printR ⟨bsA v, a.map bsA, tl⟩).2 := ⟨_, rfl⟩
  have hk01 : k = 0 ∨ k = 1 := by
    rcases printR_cases ⟨bsA v, a.map bsA, tl⟩ with ⟨_, _, e⟩ | ⟨e, _⟩
    · exact .inl (by rw [hk, e])
    · exact .inr (by rw [hk, e])
  rw [← hk]
  have HK := Lib.hid hk
  clear hk
  cases fd
  · have HE := Lib.hid (show parseM (ls s) = (msg0, 2) from by rw [HPE.out]; simp)
    clear hk01
    go_wp2
    refine bodyPost_ret (res13 _ _ _ _ _ _ _ rfl rfl (HS0.out.at 1 rfl)) rfl ?_
    exact Ret.mk HJ.out HS0.out.drop.drop ⟨rfl, by rw [HE.out]; exact ⟨none, 0, rfl, Cells.nil _ _⟩⟩
  rcases hk01 with rfl | rfl
  · have HE := Lib.hid (show parseM (ls s) = (⟨bsA v, a.map bsA, tl⟩, 0) from by rw [HPE.out, if_pos ⟨rfl, HK.out.symm⟩])
    go_wp2
    refine bodyPost_ret (res13 _ _ _ _ _ _ _ rfl rfl (HS1.out.at 1 rfl)) rfl ?_
    refine Ret.mk HJ.out HS1.out.drop.drop ⟨rfl, ?_⟩
    rw [HE.out]
    refine ⟨A2, a.length, ?_, HCA.out⟩
    show _ = Value.tuple #[.agg (msgC _ (.slice A2 (a.map bsA).length a.length)), _]
    rw [hlen]
    rfl
  · have HE := Lib.hid (show parseM (ls s) = (msg0, 2) from by rw [HPE.out, if_neg (fun h => by have := HK.out; omega)])
    go_wp2
    refine bodyPost_ret (res13 _ _ _ _ _ _ _ rfl rfl (HS0.out.at 1 rfl)) rfl ?_
    exact Ret.mk HJ.out HS0.out.drop.drop ⟨rfl, by rw [HE.out]; exact ⟨none, 0, rfl, Cells.nil _ _⟩⟩
end Go.Proofs.YthmamheegkppdaaDoor
