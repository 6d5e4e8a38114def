/- rostrumref13.Same: whether two lists hold the same packets. -/
import Derived.Test.YtddopbbmgpnjjaaRcG
import Derived.Test.YtddopbbmgpnjjaaRcY
namespace Go.Proofs.Ytddopbbmgpnjjaa
open Go.RowKit
set_option linter.unusedSimpArgs false

def SameOk (I : Img) (M : List Res) (l m : List Pk) (r : Value) (J : Img) (M' : List Res) : Prop := I = J ∧ (∃ t : Bool, r = .bool t ∧ (t = true ↔ l = m)) ∧ M' = M
set_option maxRecDepth 100000 in
set_option maxHeartbeats 20000000 in
theorem sameC (I : Img) (M : List Res) (w : World) (A B : Option Addr) (z c : Nat) (ps qs : List (Pk × Vs)) (hp : Pks I A ps) (hq : Pks I B qs) (hst : St I M w) :
    Calls Try.prog 15 #[.slice A ps.length z, .slice B qs.length c] w (Ret I (SameOk I M (pks ps) (pks qs))) := by
  have HP := Lib.hid hp
  have HQ := Lib.hid hq
  have HS := Lib.hid hst
  have hm1 := hp.most
  have hm2 := hq.most
  clear hp hq hst
  by_cases hl : ps.length = qs.length
  case neg =>
    have hne : (((ps.length : Int)) == ((qs.length : Int))) = false := by rw [beq_eq_false_iff_ne]; omega
    have HF := Lib.hid (Ret.mk (.refl I) HS.out (show SameOk I M (pks ps) (pks qs) (.bool false) I M from ⟨rfl, ⟨false, rfl, by simp; intro h; exact hl (by simpa [pks] using congrArg List.length h)⟩, rfl⟩))
    clear hl
    go_enter Try.func15, Try.ntmps15
    go_wp2
    go_returns
    exact HF.out
  obtain ⟨n, hn⟩ : ∃ n, n = ps.length := ⟨_, rfl⟩
  have hn2 : n = qs.length := hn.trans hl
  rw [← hl, ← hn]
  have HN := Lib.hid (And.intro hn hn2)
  have hm : n ≤ 1099511627776 := by omega
  clear hl hm1 hm2 hn hn2
  go_enter Try.func15, Try.ntmps15
  go_upto_region 4 with fail
  go_loopw [13] (fun iv wr => ∃ i : Nat, iv = .int .i64 i ∧ i ≤ n ∧ Hid (St I M wr ∧ (pks ps).take i = (pks qs).take i)) (fun iv _ => n - (intOf iv).toNat)
  case atStart => exact ⟨0, rfl, by omega, Lib.hid ⟨HS.out, by simp⟩⟩
  case round =>
    obtain ⟨i, rfl, hi, hh⟩ := hrel
    clear HS
    obtain ⟨hs, htk⟩ := hh.out
    clear hh
    by_cases hlt : i < n
    · skip
      have hlt1 : i < ps.length := by have := HN.out.1; omega
      have hlt2 : i < qs.length := by have := HN.out.2; omega
      obtain ⟨g1, o1, rfl, hc1⟩ := flat_get (s := 16) (fun _ => rfl) HP.out.cells (by omega) (by decide)
      obtain ⟨g2, o2, rfl, hc2⟩ := flat_get (s := 16) (fun _ => rfl) HQ.out.cells (by omega) (by decide)
      have HC1 := Lib.hid (fun (M9 : List Res) (w9 : World) (h : St I M9 w9) => hc1 _ _ h i hlt1)
      have HC2 := Lib.hid (fun (M9 : List Res) (w9 : World) (h : St I M9 w9) => hc2 _ _ h i hlt2)
      have hme1 := HP.out.each _ (List.getElem_mem hlt1)
      have hme2 := HQ.out.each _ (List.getElem_mem hlt2)
      have htk1 : (pks ps).take (i + 1) = (pks ps).take i ++ [ps[i].1] := by rw [List.take_succ_eq_append_getElem (by simpa [pks] using hlt1)]; simp [pks]
      have htk2 : (pks qs).take (i + 1) = (pks qs).take i ++ [qs[i].1] := by rw [List.take_succ_eq_append_getElem (by simpa [pks] using hlt2)]; simp [pks]
      have hneq : ps[i].1 ≠ qs[i].1 → pks ps ≠ pks qs := fun h e => by
        have h1 := congrArg (fun l => l.take (i + 1)) e
        simp only [htk1, htk2, htk] at h1
        exact h (List.cons.inj (List.append_cancel_left h1)).1
      have HTK := Lib.hid (And.intro htk (And.intro htk1 (And.intro htk2 hneq)))
      clear hc1 hc2 htk htk1 htk2 hneq
      generalize ps[i] = x1 at HC1 hme1 HTK
      generalize qs[i] = x2 at HC2 hme2 HTK
      clear hlt1 hlt2
      obtain ⟨⟨kind, sender, media, ntp, rtp, pkts, octs, reps, name, srcs, seqs, base, ref, count, arrs, wants⟩, ⟨vr, vs, vq, va, vw⟩⟩ := x1
      obtain ⟨⟨hr1, hs1, hq1, ha1, hw1⟩, hraw1⟩ := hme1
      dsimp only at hr1 hs1 hq1 ha1 hw1
      obtain ⟨rA, rz, rfl, cr1, -⟩ := hr1
      obtain ⟨sA, sz, rfl, cs1, -⟩ := hs1
      obtain ⟨qA, qz, rfl, cq1, -⟩ := hq1
      obtain ⟨aA, az, rfl, ca1, -⟩ := ha1
      obtain ⟨wA, wz, rfl, cw1, -⟩ := hw1
      obtain ⟨⟨kind', sender', media', ntp', rtp', pkts', octs', reps', name', srcs', seqs', base', ref', count', arrs', wants'⟩, ⟨vr', vs', vq', va', vw'⟩⟩ := x2
      obtain ⟨⟨hr2, hs2, hq2, ha2, hw2⟩, hraw2⟩ := hme2
      dsimp only at hr2 hs2 hq2 ha2 hw2
      obtain ⟨rA', rz', rfl, cr2, -⟩ := hr2
      obtain ⟨sA', sz', rfl, cs2, -⟩ := hs2
      obtain ⟨qA', qz', rfl, cq2, -⟩ := hq2
      obtain ⟨aA', az', rfl, ca2, -⟩ := ha2
      obtain ⟨wA', wz', rfl, cw2, -⟩ := hw2
      have HCC := Lib.hid (fun (w9 : World) (h : St I M w9) => same32 I M w9 kind sender media ntp rtp pkts octs base ref count name reps rA rz srcs sA sz seqs qA qz arrs aA az wants wA wz kind' sender' media' ntp' rtp' pkts' octs' base' ref' count' name' reps' rA' rz' srcs' sA' sz' seqs' qA' qz' arrs' aA' az' wants' wA' wz' cr1 hraw1.lr cr2 hraw2.lr cs1 hraw1.ls cs2 hraw2.ls cq1 hraw1.lq cq2 hraw2.lq ca1 hraw1.la ca2 hraw2.la cw1 hraw1.lw cw2 hraw2.lw h)
      clear cr1 cs1 cq1 ca1 cw1 cr2 cs2 cq2 ca2 cw2 hraw1 hraw2
      have hin : (i : Int) < (n : Int) := by omega
      have HS := Lib.hid hs
      clear hs
      go_upto_region 6 with fail
      refine wp_region_last (S := fun w' => (∀ j, j < 16 → w'.cell? ⟨g1, o1 + i * 16 + j, none⟩ = (pvC ((⟨kind, sender, media, ntp, rtp, pkts, octs, reps, name, srcs, seqs, base, ref, count, arrs, wants⟩ : Pk), (⟨.slice rA reps.length rz, .slice sA srcs.length sz, .slice qA seqs.length qz, .slice aA arrs.length az, .slice wA wants.length wz⟩ : Vs)))[j]?) ∧ (∀ j, j < 16 → w'.cell? ⟨g2, o2 + i * 16 + j, none⟩ = (pvC ((⟨kind', sender', media', ntp', rtp', pkts', octs', reps', name', srcs', seqs', base', ref', count', arrs', wants'⟩ : Pk), (⟨.slice rA' reps'.length rz', .slice sA' srcs'.length sz', .slice qA' seqs'.length qz', .slice aA' arrs'.length az', .slice wA' wants'.length wz'⟩ : Vs)))[j]?)) (by kernel_rfl) ⟨HC1.out M _ HS.out.drew, HC2.out M _ HS.out.drew⟩ (fun hHeld => ?_)
      have hsd := HS.out.drew
      clear HS
      generalize World.drew _ = W3 at hsd hHeld ⊢
      refine wpAnyL_take (i := 0) 2 (oi := _) (v := ?_) rfl (by kernel_rfl) (by kernel_rfl) (by kernel_rfl) (by kernel_rfl) (fun _ _ _ h => h) (Or.inl ⟨by rfl, ?_⟩) (by assumption) ?_
      rotate_left
      · (intro w hSw; (try dsimp only at hSw); go_simp; try with_reducible rfl)
      try simp only [Act.put, List.getElem_toArray, List.getElem_cons_zero, List.getElem_cons_succ, List.setIfInBounds_toArray, List.set_cons_zero, List.set_cons_succ]
      refine wpAnyL_take (i := 1) 2 (oi := _) (v := ?_) rfl (by kernel_rfl) (by kernel_rfl) (by kernel_rfl) (by kernel_rfl) (fun _ _ _ h => h) (Or.inl ⟨by rfl, ?_⟩) (by assumption) ?_
      rotate_left
      · (intro w hSw; (try dsimp only at hSw); go_simp; try with_reducible rfl)
      try simp only [Act.put, List.getElem_toArray, List.getElem_cons_zero, List.getElem_cons_succ, List.setIfInBounds_toArray, List.set_cons_zero, List.set_cons_succ]
      refine wpAnyL_take (i := 2) 3 (oi := _) (v := ?_) rfl (by kernel_rfl) (by kernel_rfl) (by kernel_rfl) (by kernel_rfl) (fun _ _ _ h => h) (Or.inl ⟨by rfl, ?_⟩) (by assumption) ?_
      rotate_left
      · (intro w hSw; (try dsimp only at hSw); go_simp; try with_reducible rfl)
      try simp only [Act.put, List.getElem_toArray, List.getElem_cons_zero, List.getElem_cons_succ, List.setIfInBounds_toArray, List.set_cons_zero, List.set_cons_succ]
      refine wpAnyL_take (i := 3) 8 (oi := _) (v := ?_) rfl (by kernel_rfl) (by kernel_rfl) (by kernel_rfl) (by kernel_rfl) (fun _ _ _ h => h) (Or.inl ⟨by rfl, ?_⟩) (by assumption) ?_
      rotate_left
      · (intro w hSw; (try dsimp only at hSw); have y0 : w.cell? ⟨g1, o1 + i * 16, none⟩ = some (.int .i64 kind) := hSw.1 0 (by decide); have y1 : w.cell? ⟨g1, o1 + i * 16 + 1, none⟩ = some (.int .u32 sender) := hSw.1 1 (by decide); have y2 : w.cell? ⟨g1, o1 + i * 16 + 2, none⟩ = some (.int .u32 media) := hSw.1 2 (by decide); have y3 : w.cell? ⟨g1, o1 + i * 16 + 3, none⟩ = some (.int .u64 ntp) := hSw.1 3 (by decide); have y4 : w.cell? ⟨g1, o1 + i * 16 + 4, none⟩ = some (.int .u32 rtp) := hSw.1 4 (by decide); have y5 : w.cell? ⟨g1, o1 + i * 16 + 5, none⟩ = some (.int .u32 pkts) := hSw.1 5 (by decide); have y6 : w.cell? ⟨g1, o1 + i * 16 + 6, none⟩ = some (.int .u32 octs) := hSw.1 6 (by decide); have y7 : w.cell? ⟨g1, o1 + i * 16 + 7, none⟩ = some (.slice rA reps.length rz) := hSw.1 7 (by decide); have y8 : w.cell? ⟨g1, o1 + i * 16 + 8, none⟩ = some (.string name) := hSw.1 8 (by decide); have y9 : w.cell? ⟨g1, o1 + i * 16 + 9, none⟩ = some (.slice sA srcs.length sz) := hSw.1 9 (by decide); have y10 : w.cell? ⟨g1, o1 + i * 16 + 10, none⟩ = some (.slice qA seqs.length qz) := hSw.1 10 (by decide); have y11 : w.cell? ⟨g1, o1 + i * 16 + 11, none⟩ = some (.int .u16 base) := hSw.1 11 (by decide); have y12 : w.cell? ⟨g1, o1 + i * 16 + 12, none⟩ = some (.int .u32 ref) := hSw.1 12 (by decide); have y13 : w.cell? ⟨g1, o1 + i * 16 + 13, none⟩ = some (.int .u8 count) := hSw.1 13 (by decide); have y14 : w.cell? ⟨g1, o1 + i * 16 + 14, none⟩ = some (.slice aA arrs.length az) := hSw.1 14 (by decide); have y15 : w.cell? ⟨g1, o1 + i * 16 + 15, none⟩ = some (.slice wA wants.length wz) := hSw.1 15 (by decide); go_simp; try with_reducible rfl)
      try simp only [Act.put, List.getElem_toArray, List.getElem_cons_zero, List.getElem_cons_succ, List.setIfInBounds_toArray, List.set_cons_zero, List.set_cons_succ]
      refine wpAnyL_take (i := 4) 6 (oi := _) (v := ?_) rfl (by kernel_rfl) (by kernel_rfl) (by kernel_rfl) (by kernel_rfl) (fun _ _ _ h => h) (Or.inl ⟨by rfl, ?_⟩) (by assumption) ?_
      rotate_left
      · (intro w hSw; (try dsimp only at hSw); go_simp; try with_reducible rfl)
      try simp only [Act.put, List.getElem_toArray, List.getElem_cons_zero, List.getElem_cons_succ, List.setIfInBounds_toArray, List.set_cons_zero, List.set_cons_succ]
      refine wpAnyL_take (i := 5) 6 (oi := _) (v := ?_) rfl (by kernel_rfl) (by kernel_rfl) (by kernel_rfl) (by kernel_rfl) (fun _ _ _ h => h) (Or.inl ⟨by rfl, ?_⟩) (by assumption) ?_
      rotate_left
      · (intro w hSw; (try dsimp only at hSw); go_simp; try with_reducible rfl)
      try simp only [Act.put, List.getElem_toArray, List.getElem_cons_zero, List.getElem_cons_succ, List.setIfInBounds_toArray, List.set_cons_zero, List.set_cons_succ]
      refine wpAnyL_take (i := 6) 7 (oi := _) (v := ?_) rfl (by kernel_rfl) (by kernel_rfl) (by kernel_rfl) (by kernel_rfl) (fun _ _ _ h => h) (Or.inl ⟨by rfl, ?_⟩) (by assumption) ?_
      rotate_left
      · (intro w hSw; (try dsimp only at hSw); go_simp; try with_reducible rfl)
      try simp only [Act.put, List.getElem_toArray, List.getElem_cons_zero, List.getElem_cons_succ, List.setIfInBounds_toArray, List.set_cons_zero, List.set_cons_succ]
      refine wpAnyL_take (i := 7) 8 (oi := _) (v := ?_) rfl (by kernel_rfl) (by kernel_rfl) (by kernel_rfl) (by kernel_rfl) (fun _ _ _ h => h) (Or.inl ⟨by rfl, ?_⟩) (by assumption) ?_
      rotate_left
      · (intro w hSw; (try dsimp only at hSw); have y0 : w.cell? ⟨g2, o2 + i * 16, none⟩ = some (.int .i64 kind') := hSw.2 0 (by decide); have y1 : w.cell? ⟨g2, o2 + i * 16 + 1, none⟩ = some (.int .u32 sender') := hSw.2 1 (by decide); have y2 : w.cell? ⟨g2, o2 + i * 16 + 2, none⟩ = some (.int .u32 media') := hSw.2 2 (by decide); have y3 : w.cell? ⟨g2, o2 + i * 16 + 3, none⟩ = some (.int .u64 ntp') := hSw.2 3 (by decide); have y4 : w.cell? ⟨g2, o2 + i * 16 + 4, none⟩ = some (.int .u32 rtp') := hSw.2 4 (by decide); have y5 : w.cell? ⟨g2, o2 + i * 16 + 5, none⟩ = some (.int .u32 pkts') := hSw.2 5 (by decide); have y6 : w.cell? ⟨g2, o2 + i * 16 + 6, none⟩ = some (.int .u32 octs') := hSw.2 6 (by decide); have y7 : w.cell? ⟨g2, o2 + i * 16 + 7, none⟩ = some (.slice rA' reps'.length rz') := hSw.2 7 (by decide); have y8 : w.cell? ⟨g2, o2 + i * 16 + 8, none⟩ = some (.string name') := hSw.2 8 (by decide); have y9 : w.cell? ⟨g2, o2 + i * 16 + 9, none⟩ = some (.slice sA' srcs'.length sz') := hSw.2 9 (by decide); have y10 : w.cell? ⟨g2, o2 + i * 16 + 10, none⟩ = some (.slice qA' seqs'.length qz') := hSw.2 10 (by decide); have y11 : w.cell? ⟨g2, o2 + i * 16 + 11, none⟩ = some (.int .u16 base') := hSw.2 11 (by decide); have y12 : w.cell? ⟨g2, o2 + i * 16 + 12, none⟩ = some (.int .u32 ref') := hSw.2 12 (by decide); have y13 : w.cell? ⟨g2, o2 + i * 16 + 13, none⟩ = some (.int .u8 count') := hSw.2 13 (by decide); have y14 : w.cell? ⟨g2, o2 + i * 16 + 14, none⟩ = some (.slice aA' arrs'.length az') := hSw.2 14 (by decide); have y15 : w.cell? ⟨g2, o2 + i * 16 + 15, none⟩ = some (.slice wA' wants'.length wz') := hSw.2 15 (by decide); go_simp; try with_reducible rfl)
      try simp only [Act.put, List.getElem_toArray, List.getElem_cons_zero, List.getElem_cons_succ, List.setIfInBounds_toArray, List.set_cons_zero, List.set_cons_succ]
      have HC := Lib.hid (HCC.out W3 hsd)
      obtain ⟨bb, hbb⟩ : ∃ b, b = sameB (⟨kind, sender, media, ntp, rtp, pkts, octs, reps, name, srcs, seqs, base, ref, count, arrs, wants⟩ : Pk) (⟨kind', sender', media', ntp', rtp', pkts', octs', reps', name', srcs', seqs', base', ref', count', arrs', wants'⟩ : Pk) := ⟨_, rfl⟩
      rw [← hbb] at HC
      have HBB := Lib.hid hbb
      clear hbb
      refine wpAnyL_one (i := 8) (o := _) (by kernel_rfl) rfl (fun K hK => ?_)
      go_simp
      try clear hHeld
      refine HC.out.mono ?_
      clear HC hsd
      rintro e w4 ⟨_, J4, M4, rfl, _, hsd, hJ, hb, hM⟩
      rw [hM, ← hJ] at hsd
      subst hb
      clear hJ hM
      refine hK.out _ _ ⟨HC1.out M _ hsd, HC2.out M _ hsd⟩ (fun hHeld => ?_)
      clear hK K
      try simp only [Act.put, List.getElem_toArray, List.getElem_cons_zero, List.getElem_cons_succ, List.setIfInBounds_toArray, List.set_cons_zero, List.set_cons_succ]
      refine wpAnyL_last (i := 9) (o := _) (by kernel_rfl) rfl (by kernel_rfl) (by kernel_rfl) (fun K hK => ?_)
      go_simp
      try clear hHeld
      refine hK.out _ _ ?_
      clear hK K
      try simp only [Act.put, List.getElem_toArray, List.getElem_cons_zero, List.getElem_cons_succ, List.setIfInBounds_toArray, List.set_cons_zero, List.set_cons_succ]
      have HS := Lib.hid hsd
      clear hsd
      cases bb
      · have HF := Lib.hid (Ret.mk (.refl I) HS.out (show SameOk I M (pks ps) (pks qs) (.bool false) I M from ⟨rfl, ⟨false, rfl, by
          simp only [Bool.false_eq_true, false_iff]
          refine HTK.out.2.2.2 (fun h => ?_)
          have h1 := HBB.out
          rw [sameB_yes h] at h1
          cases h1⟩, rfl⟩))
        go_wp2
        go_returns
        exact HF.out
      · have HEQ := Lib.hid (show (⟨kind, sender, media, ntp, rtp, pkts, octs, reps, name, srcs, seqs, base, ref, count, arrs, wants⟩ : Pk) = (⟨kind', sender', media', ntp', rtp', pkts', octs', reps', name', srcs', seqs', base', ref', count', arrs', wants'⟩ : Pk) from Classical.byContradiction (fun h => by
          have h1 := HBB.out
          rw [sameB_no h] at h1
          cases h1))
        go_wp2
        go_roundw
        case rel =>
          refine ⟨i + 1, by go_num, by omega, Lib.hid ⟨HS.out, ?_⟩⟩
          rw [HTK.out.2.1, HTK.out.2.2.1, HTK.out.1, HEQ.out]
        case measure => simp [intOf]; omega
    · have hin : i = n := by omega
      subst hin
      have HF := Lib.hid (Ret.mk (.refl I) hs (show SameOk I M (pks ps) (pks qs) (.bool true) I M from ⟨rfl, ⟨true, rfl, by
        simp only [true_iff]
        rwa [List.take_of_length_le (by simp [pks]; have := HN.out.1; omega), List.take_of_length_le (by simp [pks]; have := HN.out.2; omega)] at htk⟩, rfl⟩))
      clear hs htk
      go_wp2
      go_returns
      exact HF.out
end Go.Proofs.Ytddopbbmgpnjjaa
