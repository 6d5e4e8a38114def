/- part. -/
import Derived.Test.YtddopbbmgpnjjaaZT40
namespace Go.Proofs.Ytddopbbmgpnjjaa
set_option linter.unusedSimpArgs false
open Go.RowKit
def SameOk (I : Zh) (M : List Zt) (l m : List Pk) (r : Value) (J : Zh) (M' : List Zt) : Prop := I = J /\ (∃ t : Bool, r = .bool t /\ (t = true ↔ l = m)) /\ M' = M
set_option maxRecDepth 100000 in
set_option maxHeartbeats 20000000 in
theorem sameC (I : Zh) (M : List Zt) (w : World) (A B : Option Addr) (z c : Nat) (ps qs : List (Pk × Vs)) (hp : Pks I A ps) (hq : Pks I B qs) (ZX : St I M w) :
  Calls Try.prog 15 #[.slice A ps.length z, .slice B qs.length c] w (YR I (SameOk I M (Yo ps) (Yo qs))) := by
 have HP := VL hp
 have HQ := VL hq
 have HS := VL ZX
 have hm1 := hp.most
 have hm2 := hq.most
 clear hp hq ZX
 by_cases hl : ps.length = qs.length
 case neg =>
  have hne : (((ps.length : Int)) == ((qs.length : Int))) = false := by rw [beq_eq_false_iff_ne]; omega
  have HF := VL (YR.mk (.refl I) HS.out (show SameOk I M (Yo ps) (Yo qs) (.bool false) I M from ⟨rfl, ⟨false, rfl, by simp; intro h; exact hl (by simpa [Yo] using congrArg List.length h)⟩, rfl⟩))
  clear hl
  go_enter Try.func15, Try.ntmps15
  go_wp2
  go_returns
  exact HF.out
 obtain ⟨n, hn⟩ : ∃ n, n = ps.length := ⟨_, rfl⟩
 have hn2 : n = qs.length := hn.trans hl
 rw [<- hl, <- hn]
 have HN := VL (And.intro hn hn2)
 have hm : n <= 1099511627776 := by omega
 clear hl hm1 hm2 hn hn2
 go_enter Try.func15, Try.ntmps15
 go_upto_region 4 with fail
 go_loopw [13] (fun iv wr => ∃ i : Nat, iv = .int .i64 i /\ i <= n /\ Hid (St I M wr /\ (Yo ps).take i = (Yo qs).take i)) (fun iv _ => n - (intOf iv).toNat)
 case atStart => exact ⟨0, rfl, by omega, VL ⟨HS.out, by simp⟩⟩
 case round =>
  obtain ⟨i, rfl, hi, hh⟩ := hrel
  clear HS
  obtain ⟨hs, htk⟩ := hh.out
  clear hh
  by_cases Z0 : i < n
  ·skip
   have hlt1 : i < ps.length := by have := HN.out.1; omega
   have hlt2 : i < qs.length := by have := HN.out.2; omega
   obtain ⟨g1, o1, rfl, Zc⟩ := flat_get (s := 16) (fun _ => rfl) HP.out.cells (by omega) (by decide)
   obtain ⟨g2, o2, rfl, hc2⟩ := flat_get (s := 16) (fun _ => rfl) HQ.out.cells (by omega) (by decide)
   have HC1 := VL (fun (M9 : List Zt) (w9 : World) (h : St I M9 w9) => Zc _ _ h i hlt1)
   have HC2 := VL (fun (M9 : List Zt) (w9 : World) (h : St I M9 w9) => hc2 _ _ h i hlt2)
   have hme1 := HP.out.each _ (List.getElem_mem hlt1)
   have hme2 := HQ.out.each _ (List.getElem_mem hlt2)
   have htk1 : (Yo ps).take (i + 1) = (Yo ps).take i ++ [ps[i].1] := by rw [List.take_succ_eq_append_getElem (by simpa [Yo] using hlt1)]; simp [Yo]
   have htk2 : (Yo qs).take (i + 1) = (Yo qs).take i ++ [qs[i].1] := by rw [List.take_succ_eq_append_getElem (by simpa [Yo] using hlt2)]; simp [Yo]
   have hneq : ps[i].1 ≠ qs[i].1 -> Yo ps ≠ Yo qs := fun h e => by
    have h1 := congrArg (fun l => l.take (i + 1)) e
    simp only [htk1, htk2, htk] at h1
    exact h (List.cons.inj (List.append_cancel_left h1)).1
   have HTK := VL (And.intro htk (And.intro htk1 (And.intro htk2 hneq)))
   clear Zc hc2 htk htk1 htk2 hneq
   generalize ps[i] = x1 at HC1 hme1 HTK
   generalize qs[i] = x2 at HC2 hme2 HTK
   clear hlt1 hlt2
   obtain ⟨⟨kind, ZA, ZC, ZN, ZP, ZI, ZJ, ZE, name, ZG, ZH, base, ref, count, ZF, ZB⟩, ⟨vr, vs, vq, va, vw⟩⟩ := x1
   obtain ⟨⟨hr1, ZY, hq1, ha1, hw1⟩, hraw1⟩ := hme1
   dsimp only at hr1 ZY hq1 ha1 hw1
   obtain ⟨rA, rz, rfl, cr1, -⟩ := hr1
   obtain ⟨sA, sz, rfl, cs1, -⟩ := ZY
   obtain ⟨qA, qz, rfl, cq1, -⟩ := hq1
   obtain ⟨aA, az, rfl, ca1, -⟩ := ha1
   obtain ⟨wA, wz, rfl, cw1, -⟩ := hw1
   obtain ⟨⟨kind', YB, YW, XY, XZ, Yx, Yy, Yg, name', Yc, Yd, base', ref', YX, Ye, YE⟩, ⟨vr', vs', vq', va', vw'⟩⟩ := x2
   obtain ⟨⟨hr2, YN, hq2, ha2, hw2⟩, hraw2⟩ := hme2
   dsimp only at hr2 YN hq2 ha2 hw2
   obtain ⟨rA', rz', rfl, cr2, -⟩ := hr2
   obtain ⟨sA', sz', rfl, cs2, -⟩ := YN
   obtain ⟨qA', qz', rfl, cq2, -⟩ := hq2
   obtain ⟨aA', az', rfl, ca2, -⟩ := ha2
   obtain ⟨wA', wz', rfl, cw2, -⟩ := hw2
   have HCC := VL (fun (w9 : World) (h : St I M w9) => same32 I M w9 kind ZA ZC ZN ZP ZI ZJ base ref count name ZE rA rz ZG sA sz ZH qA qz ZF aA az ZB wA wz kind' YB YW XY XZ Yx Yy base' ref' YX name' Yg rA' rz' Yc sA' sz' Yd qA' qz' Ye aA' az' YE wA' wz' cr1 hraw1.lr cr2 hraw2.lr cs1 hraw1.ls cs2 hraw2.ls cq1 hraw1.lq cq2 hraw2.lq ca1 hraw1.la ca2 hraw2.la cw1 hraw1.lw cw2 hraw2.lw h)
   clear cr1 cs1 cq1 ca1 cw1 cr2 cs2 cq2 ca2 cw2 hraw1 hraw2
   have hin : (i : Int) < (n : Int) := by omega
   have HS := VL hs
   clear hs
   go_upto_region 6 with fail
   refine YQ (S := fun w' => (∀ j, j < 16 -> w'.cell? ⟨g1, o1 + i * 16 + j, none⟩ = (pvC ((⟨kind, ZA, ZC, ZN, ZP, ZI, ZJ, ZE, name, ZG, ZH, base, ref, count, ZF, ZB⟩ : Pk), (⟨.slice rA ZE.length rz, .slice sA ZG.length sz, .slice qA ZH.length qz, .slice aA ZF.length az, .slice wA ZB.length wz⟩ : Vs)))[j]?) /\ (∀ j, j < 16 -> w'.cell? ⟨g2, o2 + i * 16 + j, none⟩ = (pvC ((⟨kind', YB, YW, XY, XZ, Yx, Yy, Yg, name', Yc, Yd, base', ref', YX, Ye, YE⟩ : Pk), (⟨.slice rA' Yg.length rz', .slice sA' Yc.length sz', .slice qA' Yd.length qz', .slice aA' Ye.length az', .slice wA' YE.length wz'⟩ : Vs)))[j]?)) (by kernel_rfl) ⟨HC1.out M _ HS.out.drew, HC2.out M _ HS.out.drew⟩ (fun ZL => ?_)
   have YM := HS.out.drew
   clear HS
   generalize World.drew _ = W3 at YM ZL ⊢
   refine wt 0 2 rfl (by kernel_rfl) (fun _ _ _ h => h) rfl ‹_› (by intro w h;go_simp;try with_reducible rfl) ?_
   try go_frame
   refine wt 1 2 rfl (by kernel_rfl) (fun _ _ _ h => h) rfl ‹_› (by intro w h;go_simp;try with_reducible rfl) ?_
   try go_frame
   refine wt 2 3 rfl (by kernel_rfl) (fun _ _ _ h => h) rfl ‹_› (by intro w h;go_simp;try with_reducible rfl) ?_
   try go_frame
   refine wpAnyL_take (i := 3) 8 (oi := _) (v := ?_) rfl (by kernel_rfl) (by kernel_rfl) (by kernel_rfl) (by kernel_rfl) (fun _ _ _ h => h) (Or.inl ⟨by rfl, ?_⟩) (by assumption) ?_
   rotate_left
   ·(intro w hSw; (try dsimp only at hSw); have y0 : w.cell? ⟨g1, o1 + i * 16, none⟩ = some (.int .i64 kind) := hSw.1 0 (by decide); have y1 : w.cell? ⟨g1, o1 + i * 16 + 1, none⟩ = some (.int .u32 ZA) := hSw.1 1 (by decide); have y2 : w.cell? ⟨g1, o1 + i * 16 + 2, none⟩ = some (.int .u32 ZC) := hSw.1 2 (by decide); have y3 : w.cell? ⟨g1, o1 + i * 16 + 3, none⟩ = some (.int .u64 ZN) := hSw.1 3 (by decide); have y4 : w.cell? ⟨g1, o1 + i * 16 + 4, none⟩ = some (.int .u32 ZP) := hSw.1 4 (by decide); have y5 : w.cell? ⟨g1, o1 + i * 16 + 5, none⟩ = some (.int .u32 ZI) := hSw.1 5 (by decide); have y6 : w.cell? ⟨g1, o1 + i * 16 + 6, none⟩ = some (.int .u32 ZJ) := hSw.1 6 (by decide); have y7 : w.cell? ⟨g1, o1 + i * 16 + 7, none⟩ = some (.slice rA ZE.length rz) := hSw.1 7 (by decide); have y8 : w.cell? ⟨g1, o1 + i * 16 + 8, none⟩ = some (.string name) := hSw.1 8 (by decide); have y9 : w.cell? ⟨g1, o1 + i * 16 + 9, none⟩ = some (.slice sA ZG.length sz) := hSw.1 9 (by decide); have y10 : w.cell? ⟨g1, o1 + i * 16 + 10, none⟩ = some (.slice qA ZH.length qz) := hSw.1 10 (by decide); have y11 : w.cell? ⟨g1, o1 + i * 16 + 11, none⟩ = some (.int .u16 base) := hSw.1 11 (by decide); have y12 : w.cell? ⟨g1, o1 + i * 16 + 12, none⟩ = some (.int .u32 ref) := hSw.1 12 (by decide); have y13 : w.cell? ⟨g1, o1 + i * 16 + 13, none⟩ = some (.int .u8 count) := hSw.1 13 (by decide); have y14 : w.cell? ⟨g1, o1 + i * 16 + 14, none⟩ = some (.slice aA ZF.length az) := hSw.1 14 (by decide); have y15 : w.cell? ⟨g1, o1 + i * 16 + 15, none⟩ = some (.slice wA ZB.length wz) := hSw.1 15 (by decide); go_simp; try with_reducible rfl)
   try simp only [Act.put, List.getElem_toArray, List.getElem_cons_zero, List.getElem_cons_succ, List.setIfInBounds_toArray, List.set_cons_zero, List.set_cons_succ]
   refine wt 4 6 rfl (by kernel_rfl) (fun _ _ _ h => h) rfl ‹_› (by intro w h;go_simp;try with_reducible rfl) ?_
   try go_frame
   refine wt 5 6 rfl (by kernel_rfl) (fun _ _ _ h => h) rfl ‹_› (by intro w h;go_simp;try with_reducible rfl) ?_
   try go_frame
   refine wt 6 7 rfl (by kernel_rfl) (fun _ _ _ h => h) rfl ‹_› (by intro w h;go_simp;try with_reducible rfl) ?_
   try go_frame
   refine wpAnyL_take (i := 7) 8 (oi := _) (v := ?_) rfl (by kernel_rfl) (by kernel_rfl) (by kernel_rfl) (by kernel_rfl) (fun _ _ _ h => h) (Or.inl ⟨by rfl, ?_⟩) (by assumption) ?_
   rotate_left
   ·(intro w hSw; (try dsimp only at hSw); have y0 : w.cell? ⟨g2, o2 + i * 16, none⟩ = some (.int .i64 kind') := hSw.2 0 (by decide); have y1 : w.cell? ⟨g2, o2 + i * 16 + 1, none⟩ = some (.int .u32 YB) := hSw.2 1 (by decide); have y2 : w.cell? ⟨g2, o2 + i * 16 + 2, none⟩ = some (.int .u32 YW) := hSw.2 2 (by decide); have y3 : w.cell? ⟨g2, o2 + i * 16 + 3, none⟩ = some (.int .u64 XY) := hSw.2 3 (by decide); have y4 : w.cell? ⟨g2, o2 + i * 16 + 4, none⟩ = some (.int .u32 XZ) := hSw.2 4 (by decide); have y5 : w.cell? ⟨g2, o2 + i * 16 + 5, none⟩ = some (.int .u32 Yx) := hSw.2 5 (by decide); have y6 : w.cell? ⟨g2, o2 + i * 16 + 6, none⟩ = some (.int .u32 Yy) := hSw.2 6 (by decide); have y7 : w.cell? ⟨g2, o2 + i * 16 + 7, none⟩ = some (.slice rA' Yg.length rz') := hSw.2 7 (by decide); have y8 : w.cell? ⟨g2, o2 + i * 16 + 8, none⟩ = some (.string name') := hSw.2 8 (by decide); have y9 : w.cell? ⟨g2, o2 + i * 16 + 9, none⟩ = some (.slice sA' Yc.length sz') := hSw.2 9 (by decide); have y10 : w.cell? ⟨g2, o2 + i * 16 + 10, none⟩ = some (.slice qA' Yd.length qz') := hSw.2 10 (by decide); have y11 : w.cell? ⟨g2, o2 + i * 16 + 11, none⟩ = some (.int .u16 base') := hSw.2 11 (by decide); have y12 : w.cell? ⟨g2, o2 + i * 16 + 12, none⟩ = some (.int .u32 ref') := hSw.2 12 (by decide); have y13 : w.cell? ⟨g2, o2 + i * 16 + 13, none⟩ = some (.int .u8 YX) := hSw.2 13 (by decide); have y14 : w.cell? ⟨g2, o2 + i * 16 + 14, none⟩ = some (.slice aA' Ye.length az') := hSw.2 14 (by decide); have y15 : w.cell? ⟨g2, o2 + i * 16 + 15, none⟩ = some (.slice wA' YE.length wz') := hSw.2 15 (by decide); go_simp; try with_reducible rfl)
   try simp only [Act.put, List.getElem_toArray, List.getElem_cons_zero, List.getElem_cons_succ, List.setIfInBounds_toArray, List.set_cons_zero, List.set_cons_succ]
   have HC := VL (HCC.out W3 YM)
   obtain ⟨bb, hbb⟩ : ∃ b, b = sameB (⟨kind, ZA, ZC, ZN, ZP, ZI, ZJ, ZE, name, ZG, ZH, base, ref, count, ZF, ZB⟩ : Pk) (⟨kind', YB, YW, XY, XZ, Yx, Yy, Yg, name', Yc, Yd, base', ref', YX, Ye, YE⟩ : Pk) := ⟨_, rfl⟩
   rw [<- hbb] at HC
   have HBB := VL hbb
   clear hbb
   refine ZU (i := 8) (o := _) (by kernel_rfl) rfl (fun K hK => ?_)
   go_simp
   try clear ZL
   refine HC.out.mono ?_
   clear HC YM
   rintro e w4 ⟨_, J4, M4, rfl, _, YM, hJ, hb, hM⟩
   rw [hM, <- hJ] at YM
   subst hb
   clear hJ hM
   refine hK.out _ _ ⟨HC1.out M _ YM, HC2.out M _ YM⟩ (fun ZL => ?_)
   clear hK K
   try go_frame
   refine Yi (i := 9) (o := _) (by kernel_rfl) rfl (by kernel_rfl) (by kernel_rfl) (fun K hK => ?_)
   go_simp
   try clear ZL
   refine hK.out _ _ ?_
   clear hK K
   try go_frame
   have HS := VL YM
   clear YM
   cases bb
   ·have HF := VL (YR.mk (.refl I) HS.out (show SameOk I M (Yo ps) (Yo qs) (.bool false) I M from ⟨rfl, ⟨false, rfl, by
     simp only [Bool.false_eq_true, false_iff]
     refine HTK.out.2.2.2 (fun h => ?_)
     have h1 := HBB.out
     rw [Wx h] at h1
     cases h1⟩, rfl⟩))
    go_wp2
    go_returns
    exact HF.out
   have HEQ := VL (show (⟨kind, ZA, ZC, ZN, ZP, ZI, ZJ, ZE, name, ZG, ZH, base, ref, count, ZF, ZB⟩ : Pk) = (⟨kind', YB, YW, XY, XZ, Yx, Yy, Yg, name', Yc, Yd, base', ref', YX, Ye, YE⟩ : Pk) from Classical.byContradiction (fun h => by
    have h1 := HBB.out
    rw [Xq h] at h1
    cases h1))
   go_wp2
   go_roundw
   case rel =>
    refine ⟨i + 1, by go_num, by omega, VL ⟨HS.out, ?_⟩⟩
    rw [HTK.out.2.1, HTK.out.2.2.1, HTK.out.1, HEQ.out]
   case measure => simp [intOf]; omega
  have hin : i = n := by omega
  subst hin
  have HF := VL (YR.mk (.refl I) hs (show SameOk I M (Yo ps) (Yo qs) (.bool true) I M from ⟨rfl, ⟨true, rfl, by
   simp only [true_iff]
   rwa [List.take_of_length_le (by simp [Yo]; have := HN.out.1; omega), List.take_of_length_le (by simp [Yo]; have := HN.out.2; omega)] at htk⟩, rfl⟩))
  clear hs htk
  go_wp2
  go_returns
  exact HF.out
def Yes (I : Zh) (M : List Zt) : Ending -> World -> Prop := YR I (fun v _ M' => v = .bool true /\ M' = M)
def aPk : Pk := ⟨2, 5, 0, 0, 0, 0, 0, [], ⟨#[]⟩, [], [], 0, 0, 0, [], []⟩
def aVs : Vs := ⟨YA, YA, YA, YA, YA⟩
theorem aRaw : W9 aPk := by
 refine ⟨?_, ?_, ?_, ?_, ?_, ?_, ?_, ?_, ?_, ?_, ?_, ?_, ?_, ?_, ?_, ?_, ?_, ?_, ?_, ?_, ?_, ?_, ?_, ?_⟩ <;> first | (simp [aPk, maxLen]; done) | exact Nat.zero_le _
theorem aIn (I : Zh) : PkIn I aPk aVs := ⟨Y4.nil I _, Y4.nil I _, Y4.nil I _, Y4.nil I _, Y4.nil I _⟩
theorem aGood : Good aPk := ⟨.inl ⟨.inr rfl, rfl, by simp [aPk]⟩, rfl⟩
theorem aBytes : [aPk].flatMap ZV = [128, 201, 0, 1, 0, 0, 0, 5] := by decide +kernel
theorem aBuilt : Xh [aPk] := ⟨⟨by simp, by simp⟩, ⟨aPk, [], rfl, .inr rfl⟩, fun p hp => by rw [List.mem_singleton.1 hp]; exact aGood, by rw [aBytes]; decide⟩
set_option maxRecDepth 8000 in
set_option maxHeartbeats 8000000 in
theorem awakeC (I : Zh) (M : List Zt) (w : World) (ZX : St I M w) : Calls Try.prog 9 #[] w (fun e w' => ∃ J, e = .returned (.bool true) /\ I.le J /\ St J M w') := by
 obtain ⟨J, Z5, hs, Z4⟩ := (ZX.alloc 51 (WU aPk aVs)).Zg
 have hc : Cells J (some ⟨w.heap.size, 0, none⟩) (flat pvC [(aPk, aVs)]) := by
  have := Cells.Yv Z4
  simpa [flat] using this
 have HB := VL (buildC J M _ (some ⟨w.heap.size, 0, none⟩) 1 [(aPk, aVs)] ⟨hc, fun x hx => by rw [List.mem_singleton.1 hx]; exact ⟨aIn J, aRaw⟩, by simp⟩ hs)
 have HLE := VL Z5
 clear ZX Z5 hs Z4 hc
 go_enter Try.func9, Try.ntmps9
 go_wp2_with fail
 go_at_call 11
 refine HB.out.mono ?_
 clear HB
 rintro e w2 ⟨_, J2, _, rfl, Zd, YN, Wo⟩
 rcases Wo with ⟨_, u, rfl, rfl⟩ | ⟨hn, _⟩
 case inr => exact absurd aBuilt hn
 have e1 : ((Yo [(aPk, aVs)]).flatMap ZV) = [128, 201, 0, 1, 0, 0, 0, 5] := aBytes
 rw [e1] at YN
 obtain ⟨A, c, rfl⟩ := ZW (show World.ownsRow _ 0 5 1 u _ _ from YN.at 0 rfl)
 obtain ⟨J3, YL, Zf, hb3⟩ := YN.ZR
 have hb4 : Zq J3 A [128, 201, 0, 1, 0, 0, 0, 5] := hb3
 obtain ⟨g, o, rfl, ZK⟩ := Zq.at hb4 (by decide)
 have h0 : w2.cell? ⟨g, o, none⟩ = some (.int .u8 128) := ZK _ _ Zf 0 (by decide)
 have h1 : w2.cell? ⟨g, o + 1, none⟩ = some (.int .u8 201) := ZK _ _ Zf 1 (by decide)
 have h7 : w2.cell? ⟨g, o + 7, none⟩ = some (.int .u8 5) := ZK _ _ Zf 7 (by decide)
 have HF := VL (show ∃ J, (Ending.returned (.bool true)) = .returned (.bool true) /\ I.le J /\ St J M w2 from ⟨J3, rfl, (HLE.out.trans Zd).trans YL, Zf⟩)
 clear YN Zf hb3 hb4 ZK
 go_wp2
 go_returns
 obtain ⟨J9, _, h8, h9⟩ := HF.out
 exact ⟨J9, rfl, h8, h9⟩
theorem tl_ofR {I : Zh} {A : Option Addr} {qs : List (Pk × Vs)} (h : Pks I A qs) (hb : Xh (Yo qs)) : TL ((Yo qs).flatMap ZV) (Yo qs) :=
 ⟨hb, fun p hp => by
  obtain ⟨x, hx, rfl⟩ := List.mem_map.1 hp
  exact (h.each x hx).2.ok (hb.2.2.1 _ hp), rfl⟩
theorem built_lenR {qs : List (Pk × Vs)} (hb : Xh (Yo qs)) : qs.length * 192 <= 140737488351232 := by
 have := hb.1.2
 rw [List.length_map] at this
 omega
theorem Pks.nilR (I : Zh) : Pks I none [] := ⟨fun h => by simp [flat] at h, (fun x hx => by cases hx), Nat.zero_le _⟩
set_option maxRecDepth 100000 in
set_option maxHeartbeats 20000000 in
theorem law4 (I : Zh) (M : List Zt) (w : World) (B : Option Addr) (c : Nat) (bs : List UInt8) (hbs : Zq I B bs) (hbc : bs.length <= c) (hbl : bs.length <= 140737488351232) (ZX : St I M w) :
  Calls Try.prog 4 #[.slice B bs.length c] w (Yes I M) := by
 have HB := VL hbs
 have HBL := VL (And.intro hbc hbl)
 have HA := VL (awakeC I M w ZX)
 clear hbs hbl ZX hbc
 go_enter Try.func4, Try.ntmps4
 go_wp2_with fail
 go_at_call 9
 refine HA.out.mono ?_
 clear HA
 rintro e w1 ⟨J1, rfl, hle1, ZY⟩
 have HS := VL ZY
 have HLE := VL hle1
 clear hle1 ZY
 have HC := VL (refParseC _ M w1 B c bs (HB.out.mono HLE.out) HBL.out.1 HBL.out.2 HS.out)
 clear HS
 go_wp2_with fail
 go_at_call 13
 refine HC.out.mono ?_
 clear HC
 rintro e w3 ⟨J3, YL, Zf, h3⟩
 have HS := VL Zf
 have HLE0 := HLE
 have HLE := VL (HLE0.out.trans YL)
 have HC := VL (parseC _ M w3 B c bs ((HB.out.mono HLE0.out).mono YL) HBL.out.2 HS.out)
 clear Zf HS
 rcases h3 with ⟨rfl, hno⟩ | ⟨E, ec, qs, rfl, hqs, Wo, hby⟩
 ·skip
  go_wp2_with fail
  go_at_call 14
  refine HC.out.mono ?_
  clear HC
  rintro e w5 ⟨J5, hle5, Zo, h5⟩
  rcases h5 with ⟨rfl, _⟩ | ⟨D, dc, gs, rfl, hgs, _, hbt5, hby5, _⟩
  case inr => exact absurd (by rw [<- hby5]; exact tl_ofR hgs hbt5) (hno (Yo gs))
  have HLE := VL (HLE.out.trans hle5)
  have HS := VL Zo
  clear hno hle5 Zo YL
  have HC := VL (show Calls Try.prog 16 #[.slice none 0 0] w5 _ from oursC _ M w5 none 0 [] (Pks.nilR _) (by simp) HS.out)
  have HQ9 := VL (Pks.nilR J5)
  clear HS
  go_wp2_with fail
  go_at_call 16
  refine HC.out.mono ?_
  clear HC
  rintro e w6 ⟨J6, F, fc, os, rfl, hle6, hs6, ho, hoe⟩
  have HLE := VL (HLE.out.trans hle6)
  have HC := sameC J6 M w6 F none fc 0 os [] ho (HQ9.out.mono hle6) hs6
  rw [show os.length = 0 by have := congrArg List.length hoe; simpa [Yo] using this] at HC
  have HC := VL (show Calls Try.prog 15 #[.slice F 0 fc, .slice none 0 0] w6 _ from HC)
  have HEQ := VL (show Yo os = Yo [] from hoe.trans rfl)
  clear hs6 hle6 ho hoe
  go_wp2_with fail
  go_at_call 15
  refine HC.out.mono ?_
  clear HC
  rintro e w7 ⟨_, J7, M7, rfl, hle7, hs7, hJ7, ⟨t, rfl, ht⟩, hM7⟩
  obtain rfl : t = true := ht.2 HEQ.out
  rw [hM7] at hs7
  have HF := VL (show Yes I M (.returned (.bool true)) w7 from YR.mk (HLE.out.trans hle7) hs7 ⟨rfl, rfl⟩)
  clear hs7 hle7 hJ7 hM7 ht
  go_wp2
  go_returns
  exact HF.out
 have HTL := VL (show TL bs (Yo qs) by rw [<- hby]; exact tl_ofR hqs Wo)
 have HQS := VL hqs
 clear hqs Wo hby
 go_wp2_with fail
 go_at_call 14
 refine HC.out.mono ?_
 clear HC
 rintro e w5 ⟨J5, hle5, Zo, h5⟩
 rcases h5 with ⟨_, hn⟩ | ⟨D, dc, gs, rfl, hgs, _, hbt5, hby5, _, _, huni⟩
 case inl => exact absurd HTL.out (hn _)
 have hge := huni _ HTL.out
 have HLE := VL (HLE.out.trans hle5)
 have HS := VL Zo
 have HGE := VL (show Yo gs = Yo qs from hge.symm)
 have HGS := VL hgs
 have HQ5 := VL (HQS.out.mono hle5)
 have HLN := VL (built_lenR hbt5)
 clear Zo hle5 hgs hbt5 hby5 huni hge HQS YL
 have HC := VL (show Calls Try.prog 16 #[.slice D gs.length dc] w5 _ from oursC _ M w5 D dc gs HGS.out HLN.out HS.out)
 have HQ9 := VL (HQ5.out)
 clear HS
 go_wp2_with fail
 go_at_call 16
 refine HC.out.mono ?_
 clear HC
 rintro e w6 ⟨J6, F, fc, os, rfl, hle6, hs6, ho, hoe⟩
 have HLE := VL (HLE.out.trans hle6)
 have HC := sameC J6 M w6 F E fc ec os qs ho (HQ9.out.mono hle6) hs6
 rw [show os.length = gs.length by have := congrArg List.length hoe; simpa [Yo] using this] at HC
 have HC := VL (show Calls Try.prog 15 #[.slice F gs.length fc, .slice E qs.length ec] w6 _ from HC)
 have HEQ := VL (show Yo os = Yo qs from hoe.trans HGE.out)
 clear hs6 hle6 ho hoe
 go_wp2_with fail
 go_at_call 15
 refine HC.out.mono ?_
 clear HC
 rintro e w7 ⟨_, J7, M7, rfl, hle7, hs7, hJ7, ⟨t, rfl, ht⟩, hM7⟩
 obtain rfl : t = true := ht.2 HEQ.out
 rw [hM7] at hs7
 have HF := VL (show Yes I M (.returned (.bool true)) w7 from YR.mk (HLE.out.trans hle7) hs7 ⟨rfl, rfl⟩)
 clear hs7 hle7 hJ7 hM7 ht
 go_wp2
 go_returns
 exact HF.out
theorem mod_atR {n : Nat} (h0 : 0 < n) (hn : n <= 2000) (a : Int) : ∃ i : Nat, i < n /\ (a % 18446744073709551616) % (n : Int) = (i : Int) := by
 have h1 : 0 <= (a % 18446744073709551616) % (n : Int) := Int.emod_nonneg _ (by omega)
 have h2 : (a % 18446744073709551616) % (n : Int) < n := Int.emod_lt_of_pos _ (by omega)
 exact ⟨((a % 18446744073709551616) % (n : Int)).toNat, by omega, by omega⟩
theorem u64_modR (x : Int) : IntKind.u64.wrap x = x % 18446744073709551616 := by simp only [IntKind.wrap, IntKind.signed, IntKind.bits]; rfl
theorem wrap64_at {i : Nat} (h : i < 2000) : wrap64 (i : Int) = (i : Int) := by unfold wrap64; omega
set_option maxRecDepth 100000 in
set_option maxHeartbeats 20000000 in
theorem law6 (I : Zh) (M : List Zt) (w : World) (A : Option Addr) (z : Nat) (ps : List (Pk × Vs)) (hp : Pks I A ps) (at' by' : Int) (_hb0 : 0 <= by') (_hb1 : by' <= 255) (ZX : St I M w) :
  Calls Try.prog 6 #[.slice A ps.length z, .int .i64 at', .int .u8 by'] w (Yes I M) := by
 have HP := VL hp
 have HA := VL (awakeC I M w ZX)
 clear hp ZX
 go_enter Try.func6, Try.ntmps6
 go_wp2_with fail
 go_at_call 9
 refine HA.out.mono ?_
 clear HA
 rintro e w1 ⟨J1, rfl, hle1, ZY⟩
 have HC := VL (refBuildC J1 M w1 A z ps (HP.out.mono hle1) ZY)
 have HLE1 := VL hle1
 clear hle1 ZY
 go_wp2_with fail
 go_at_call 10
 refine HC.out.mono ?_
 clear HC
 rintro e w2 ⟨_, J2, M2, rfl, Zd, YN, Wo⟩
 have HLE2 := VL (HLE1.out.trans Zd)
 rcases Wo with ⟨Wo, u, rfl, rfl⟩ | ⟨Wo, rfl, hM2⟩
 rotate_left
 ·rw [hM2] at YN
  have HF := VL (show Yes I M (.returned (.bool true)) w2 from YR.mk HLE2.out YN ⟨rfl, rfl⟩)
  clear YN Wo hM2 Zd
  go_wp2
  go_returns
  exact HF.out
 have HLO := VL (show 0 < ((Yo ps).flatMap ZV).length /\ ((Yo ps).flatMap ZV).length <= 1500 from by
  refine ⟨?_, Wo.2.2.2⟩
  obtain ⟨p, r, e, _⟩ := Wo.2.1
  rw [e, List.flatMap_cons, List.length_append]
  have := pack_pos p
  omega)
 obtain ⟨ob, hob⟩ : ∃ z, z = (Yo ps).flatMap ZV := ⟨_, rfl⟩
 rw [<- hob] at YN HLO
 obtain ⟨ho0, ho1⟩ := HLO.out
 obtain ⟨uA, uc, rfl⟩ := ZW (show World.ownsRow _ 0 5 1 u _ _ from YN.at 0 rfl)
 obtain ⟨g, rfl, _, hg, ZK, hfro⟩ := St.rowAt YN ho0
 obtain ⟨i, hi, hie⟩ := mod_atR ho0 (by omega) at'
 have HIE := VL hie
 clear hie
 have hz := ZK i hi
 have hfz := hfro i
 have hcap := (Yh (show World.ownsRow _ 0 5 1 _ _ _ from YN.at 0 rfl)).2
 obtain ⟨x, hx⟩ : ∃ x, x = ob.getD i 0 := ⟨_, rfl⟩
 rw [<- hx] at hz
 have hxb := x.toNat_lt
 obtain ⟨y, hy⟩ : ∃ y : UInt8, ((x.toNat : Int) + by') % 256 = (y.toNat : Int) := ⟨UInt8.ofNat (((x.toNat : Int) + by') % 256).toNat, by rw [UInt8.toNat_ofNat']; omega⟩
 have Zf := YN.rowSet i y
 have hln : (ob.set i y).length = ob.length := List.length_set
 obtain ⟨J3, YL, Zv, hcl⟩ := Zf.ZR
 have HB := VL (show Zq J3 (some ⟨g, 0, none⟩) (ob.set i y) from hcl)
 obtain ⟨nb, hnb⟩ : ∃ z, z = ob.set i y := ⟨_, rfl⟩
 rw [<- hnb] at hln HB
 rw [<- hln]
 have HBL := VL (show nb.length <= uc /\ nb.length <= 140737488351232 by omega)
 have HLE := VL (HLE2.out.trans YL)
 have HS := VL Zv
 obtain ⟨n, hn⟩ : ∃ z, z = nb.length := ⟨_, rfl⟩
 have HN := VL hn
 have hni : i < n := by omega
 have hn0 : n <= 1500 := by omega
 have hnp : 0 < n := by omega
 have hw6 : wrap64 (i : Int) = (i : Int) := wrap64_at (by omega)
 have hiu : (i : Int) < (n : Int) := Int.ofNat_lt.2 hni
 have hie := HIE.out
 rw [<- hln, <- hn] at hie
 have hit : (at' % 18446744073709551616).tmod (n : Int) = (i : Int) := by rw [Int.tmod_eq_emod_of_nonneg (Int.emod_nonneg _ (by decide))]; exact hie
 have hiw : (IntKind.u64.wrap at').tmod (n : Int) = (i : Int) := by rw [u64_modR]; exact hit
 rw [<- hn]
 clear YN Zf Zv YL hcl Wo hob ZK hfro hie HIE hx ho0 ho1 hln HLO hi hcap hnb hn Zd
 go_upto_region 6 with fail
 go_upto_region 7 with fail
 rw [HN.out]
 clear hz hfz hy hit hiw hw6 hiu hni hnp hn0 HN n
 generalize World.setCell _ _ _ = W5 at HS ⊢
 have HC := VL (refParseC _ M W5 (some ⟨g, 0, none⟩) uc nb (HB.out) HBL.out.1 HBL.out.2 HS.out)
 clear HS
 go_wp2_with fail
 go_at_call 13
 refine HC.out.mono ?_
 clear HC
 rintro e w3 ⟨J3, YL, Zf, h3⟩
 have HS := VL Zf
 have HLE0 := HLE
 have HLE := VL (HLE0.out.trans YL)
 have HC := VL (parseC _ M w3 (some ⟨g, 0, none⟩) uc nb ((HB.out).mono YL) HBL.out.2 HS.out)
 clear Zf HS
 rcases h3 with ⟨rfl, hno⟩ | ⟨E, ec, qs, rfl, hqs, Wo, hby⟩
 ·skip
  go_wp2_with fail
  go_at_call 14
  refine HC.out.mono ?_
  clear HC
  rintro e w5 ⟨J5, hle5, Zo, h5⟩
  rcases h5 with ⟨rfl, _⟩ | ⟨D, dc, gs, rfl, hgs, _, hbt5, hby5, _⟩
  case inr => exact absurd (by rw [<- hby5]; exact tl_ofR hgs hbt5) (hno (Yo gs))
  have HLE := VL (HLE.out.trans hle5)
  have HS := VL Zo
  clear hno hle5 Zo YL
  have HC := VL (show Calls Try.prog 16 #[.slice none 0 0] w5 _ from oursC _ M w5 none 0 [] (Pks.nilR _) (by simp) HS.out)
  have HQ9 := VL (Pks.nilR J5)
  clear HS
  go_wp2_with fail
  go_at_call 16
  refine HC.out.mono ?_
  clear HC
  rintro e w6 ⟨J6, F, fc, os, rfl, hle6, hs6, ho, hoe⟩
  have HLE := VL (HLE.out.trans hle6)
  have HC := sameC J6 M w6 F none fc 0 os [] ho (HQ9.out.mono hle6) hs6
  rw [show os.length = 0 by have := congrArg List.length hoe; simpa [Yo] using this] at HC
  have HC := VL (show Calls Try.prog 15 #[.slice F 0 fc, .slice none 0 0] w6 _ from HC)
  have HEQ := VL (show Yo os = Yo [] from hoe.trans rfl)
  clear hs6 hle6 ho hoe
  go_wp2_with fail
  go_at_call 15
  refine HC.out.mono ?_
  clear HC
  rintro e w7 ⟨_, J7, M7, rfl, hle7, hs7, hJ7, ⟨t, rfl, ht⟩, hM7⟩
  obtain rfl : t = true := ht.2 HEQ.out
  rw [hM7] at hs7
  have HF := VL (show Yes I M (.returned (.bool true)) w7 from YR.mk (HLE.out.trans hle7) hs7 ⟨rfl, rfl⟩)
  clear hs7 hle7 hJ7 hM7 ht
  go_wp2
  go_returns
  exact HF.out
 have HTL := VL (show TL nb (Yo qs) by rw [<- hby]; exact tl_ofR hqs Wo)
 have HQS := VL hqs
 clear hqs Wo hby
 go_wp2_with fail
 go_at_call 14
 refine HC.out.mono ?_
 clear HC
 rintro e w5 ⟨J5, hle5, Zo, h5⟩
 rcases h5 with ⟨_, hn⟩ | ⟨D, dc, gs, rfl, hgs, _, hbt5, hby5, _, _, huni⟩
 case inl => exact absurd HTL.out (hn _)
 have hge := huni _ HTL.out
 have HLE := VL (HLE.out.trans hle5)
 have HS := VL Zo
 have HGE := VL (show Yo gs = Yo qs from hge.symm)
 have HGS := VL hgs
 have HQ5 := VL (HQS.out.mono hle5)
 have HLN := VL (built_lenR hbt5)
 clear Zo hle5 hgs hbt5 hby5 huni hge HQS YL
 have HC := VL (show Calls Try.prog 16 #[.slice D gs.length dc] w5 _ from oursC _ M w5 D dc gs HGS.out HLN.out HS.out)
 have HQ9 := VL (HQ5.out)
 clear HS
 go_wp2_with fail
 go_at_call 16
 refine HC.out.mono ?_
 clear HC
 rintro e w6 ⟨J6, F, fc, os, rfl, hle6, hs6, ho, hoe⟩
 have HLE := VL (HLE.out.trans hle6)
 have HC := sameC J6 M w6 F E fc ec os qs ho (HQ9.out.mono hle6) hs6
 rw [show os.length = gs.length by have := congrArg List.length hoe; simpa [Yo] using this] at HC
 have HC := VL (show Calls Try.prog 15 #[.slice F gs.length fc, .slice E qs.length ec] w6 _ from HC)
 have HEQ := VL (show Yo os = Yo qs from hoe.trans HGE.out)
 clear hs6 hle6 ho hoe
 go_wp2_with fail
 go_at_call 15
 refine HC.out.mono ?_
 clear HC
 rintro e w7 ⟨_, J7, M7, rfl, hle7, hs7, hJ7, ⟨t, rfl, ht⟩, hM7⟩
 obtain rfl : t = true := ht.2 HEQ.out
 rw [hM7] at hs7
 have HF := VL (show Yes I M (.returned (.bool true)) w7 from YR.mk (HLE.out.trans hle7) hs7 ⟨rfl, rfl⟩)
 clear hs7 hle7 hJ7 hM7 ht
 go_wp2
 go_returns
 exact HF.out
end Go.Proofs.Ytddopbbmgpnjjaa
