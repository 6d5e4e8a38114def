/- part. -/
import Derived.Test.YtddopbbmgpnjjaaZT12
namespace Go.Proofs.Ytddopbbmgpnjjaa
set_option linter.unusedSimpArgs false
open Go.RowKit
attribute [local go_sem] Oper.semAt_some
set_option maxRecDepth 100000 in
set_option maxHeartbeats 40000000 in
theorem write6 (I : Zh) (M : List Zt) (w : World) (ZA : Int) (ZC : Int) (ZN : Int) (ZP : Int) (ZI : Int) (ZJ : Int) (base : Int) (ref : Int) (count : Int) (name : ByteArray) (ZE : List Rp) (ZG ZH ZF : List Int) (ZB : List Wn) (rA : Option Addr) (rz : Nat) (sA : Option Addr) (sz : Nat) (qA : Option Addr) (qz : Nat) (aA : Option Addr) (az : Nat) (wA : Option Addr) (wz : Nat) (cr : Cells I rA (flat Yt ZE)) (cs : Cells I sA (flat Xd ZG)) (cq : Cells I qA (flat Yp ZH)) (ca : Cells I aA (flat XC ZF)) (cw : Cells I wA (flat WO ZB)) (p : Nat) (v : Value) (lp : List UInt8) (hok : Y6 (⟨6, ZA, ZC, ZN, ZP, ZI, ZJ, ZE, name, ZG, ZH, base, ref, count, ZF, ZB⟩ : Pk)) (hg : Good (⟨6, ZA, ZC, ZN, ZP, ZI, ZJ, ZE, name, ZG, ZH, base, ref, count, ZF, ZB⟩ : Pk)) (hl0 : lp.length <= 70368744170000) (ZX : St I (row 5 1 v lp.length (Z6 lp) :: bk p 60 #[v] :: M) w) :
  Calls Try.prog 21 #[.agg #[.int .i64 6, .int .u32 ZA, .int .u32 ZC, .int .u64 ZN, .int .u32 ZP, .int .u32 ZI, .int .u32 ZJ, .slice rA ZE.length rz, .string name, .slice sA ZG.length sz, .slice qA ZH.length qz, .int .u16 base, .int .u32 ref, .int .u8 count, .slice aA ZF.length az, .slice wA ZB.length wz], .pointer (some ⟨p, 0, none⟩)] w (YR I (fun v' _ M' => Wrote M p 60 (lp ++ ZV (⟨6, ZA, ZC, ZN, ZP, ZI, ZJ, ZE, name, ZG, ZH, base, ref, count, ZF, ZB⟩ : Pk)) v' M')) := by
 have ZY := ZX.alloc 51 #[.int .i64 6, .int .u32 ZA, .int .u32 ZC, .int .u64 ZN, .int .u32 ZP, .int .u32 ZI, .int .u32 ZJ, .slice rA ZE.length rz, .string name, .slice sA ZG.length sz, .slice qA ZH.length qz, .int .u16 base, .int .u32 ref, .int .u8 count, .slice aA ZF.length az, .slice wA ZB.length wz]
 have HOK := VL hok
 obtain ⟨n1, n2, n3, n4, n5, n6⟩ := Y0 hg
 have HLOW := VL (XB hg)
 simp only [] at n1 n2 n3 n4 n5 n6
 have HCR := VL cr
 have HCS := VL cs
 have HCW := VL cw
 have HCQ := VL cq
 have HCA := VL ca
 clear cr cs cq ca cw
 have HW := VL (VD 6 (w.alloc (.cells #[.int .i64 6, .int .u32 ZA, .int .u32 ZC, .int .u64 ZN, .int .u32 ZP, .int .u32 ZI, .int .u32 ZJ, .slice rA ZE.length rz, .string name, .slice sA ZG.length sz, .slice qA ZH.length qz, .int .u16 base, .int .u32 ref, .int .u8 count, .slice aA ZF.length az, .slice wA ZB.length wz] 51)))
 obtain ⟨q1, hq1⟩ : ∃ q, q = w.heap.size := ⟨_, rfl⟩
 rw [<- hq1] at ZY
 clear ZX hok hg
 refine callsIn_wide.1 (callsIn_of_wp_marks (n := 0) Try.func21 rfl trivial (wpIn_wide.2 ?_))
 simp only [Try.ntmps21, List.size_toArray, List.length_cons, List.length_nil, Nat.reduceAdd, Nat.reduceSub, Array.replicate_succ, Array.replicate_zero, List.push_toArray, List.append_toArray, List.nil_append, List.cons_append]
 go_upto_region 1 with fail
 rw [<- hq1]
 clear hq1
 generalize World.alloc w _ = W at ZY HW ⊢
 obtain ⟨Zc, hf1, hl1⟩ := ZO.all (ZY.at 0 rfl)
 have HS0 := VL ZY
 clear ZY
 go_wp2_with fail
 go_at_call 47
 refine HW.out.mono ?_
 rintro e w2 ⟨rfl, hw⟩
 subst hw
 simp only [Z8, if_true, if_false, Int.reduceEq, Int.reduceNeg]
 clear HW
 go_upto_region 5 with fail
 have hs : St I (row 5 1 (.slice none 0 0) ([] : List UInt8).length (Z6 []) :: bk W.heap.size 60 #[.slice none 0 0] :: bk q1 51 #[.int .i64 6, .int .u32 ZA, .int .u32 ZC, .int .u64 ZN, .int .u32 ZP, .int .u32 ZI, .int .u32 ZJ, .slice rA ZE.length rz, .string name, .slice sA ZG.length sz, .slice qA ZH.length qz, .int .u16 base, .int .u32 ref, .int .u8 count, .slice aA ZF.length az, .slice wA ZB.length wz] :: row 5 1 v lp.length (Z6 lp) :: bk p 60 #[v] :: M) (W.alloc (.cells #[.slice none 0 0] 60)) := (HS0.out.alloc 60 #[.slice none 0 0]).nil
 obtain ⟨B, hB⟩ : ∃ B, B = W.heap.size := ⟨_, rfl⟩
 rw [<- hB] at hs ⊢
 generalize World.alloc W _ = W2 at hs ⊢
 clear hB Zc hf1 hl1 HS0
 obtain ⟨cs1, hcs1⟩ : ∃ z : Array Value, z = #[.int .i64 6, .int .u32 ZA, .int .u32 ZC, .int .u64 ZN, .int .u32 ZP, .int .u32 ZI, .int .u32 ZJ, .slice rA ZE.length rz, .string name, .slice sA ZG.length sz, .slice qA ZH.length qz, .int .u16 base, .int .u32 ref, .int .u8 count, .slice aA ZF.length az, .slice wA ZB.length wz] := ⟨_, rfl⟩
 rw [<- hcs1] at hs
 have HC1 := VL hcs1
 clear hcs1
 obtain ⟨vb, hvb⟩ : ∃ vb : Value, vb = .slice none 0 0 := ⟨_, rfl⟩
 rw [<- hvb] at hs
 clear hvb
 obtain ⟨lw, hlw⟩ : ∃ lw, lw = lp := ⟨_, rfl⟩
 rw [<- hlw] at hs hl0
 have HLW := VL hlw
 clear hlw
 obtain ⟨l0, e0⟩ : ∃ z : List UInt8, z = [] := ⟨_, rfl⟩
 rw [<- e0] at hs
 have HL0 := VL (show l0.length <= 0 from by rw [e0]; exact Nat.le_refl _)
 have HE0 := VL e0
 have HS := VL hs
 clear hs e0
 obtain ⟨Zc, hf1, hl1⟩ := ZO.all (HS.out.at 2 rfl)
 rw [HC1.out] at Zc
 obtain ⟨hcb, hfb, hlb⟩ := (show ZO _ B 60 #[_] from HS.out.at 1 rfl).one
 have HC := VL (Xk (I := I) B 60 vb l0 ZA HS.out (by have := HL0.out; omega) HOK.out.ZA)
 go_wp2_with fail
 go_at_call 48
 refine HC.out.mono ?_
 clear Zc hf1 hl1 hcb hfb hlb
 clear HS HC vb
 rintro e w2 ⟨_, _, _, rfl, _, hs, rfl, rfl, vb, rfl⟩
 obtain ⟨l1, e1⟩ : ∃ z, z = l0 ++ ZM ZA := ⟨_, rfl⟩
 rw [<- e1] at hs
 have HL1 := VL (show l1.length <= 4 from by rw [e1, List.length_append]; have := HL0.out; have : (ZM ZA).length = 4 := (by first | rfl | simp); omega)
 have HE1 := VL e1
 clear e1
 have HS := VL hs
 clear hs
 obtain ⟨Zc, hf1, hl1⟩ := ZO.all (HS.out.at 2 rfl)
 rw [HC1.out] at Zc
 obtain ⟨hcb, hfb, hlb⟩ := (show ZO _ B 60 #[_] from HS.out.at 1 rfl).one
 have HC := VL (Xk (I := I) B 60 vb l1 ZC HS.out (by have := HL1.out; omega) HOK.out.ZC)
 go_wp2_with fail
 go_at_call 48
 refine HC.out.mono ?_
 clear Zc hf1 hl1 hcb hfb hlb
 clear HS HC vb
 rintro e w2 ⟨_, _, _, rfl, _, hs, rfl, rfl, vb, rfl⟩
 obtain ⟨l2, e2⟩ : ∃ z, z = l1 ++ ZM ZC := ⟨_, rfl⟩
 rw [<- e2] at hs
 have HL2 := VL (show l2.length <= 8 from by rw [e2, List.length_append]; have := HL1.out; have : (ZM ZC).length = 4 := (by first | rfl | simp); omega)
 have HE2 := VL e2
 clear e2
 have HS := VL hs
 clear hs
 obtain ⟨Zc, hf1, hl1⟩ := ZO.all (HS.out.at 2 rfl)
 rw [HC1.out] at Zc
 obtain ⟨hcb, hfb, hlb⟩ := (show ZO _ B 60 #[_] from HS.out.at 1 rfl).one
 have HC := VL (Ws (I := I) B 60 vb l2 base HS.out (by have := HL2.out; omega) HOK.out.base)
 go_wp2_with fail
 go_at_call 52
 refine HC.out.mono ?_
 clear Zc hf1 hl1 hcb hfb hlb
 clear HS HC vb
 rintro e w2 ⟨_, _, _, rfl, _, hs, rfl, rfl, vb, rfl⟩
 obtain ⟨l3, e3⟩ : ∃ z, z = l2 ++ Zi base := ⟨_, rfl⟩
 rw [<- e3] at hs
 have HL3 := VL (show l3.length <= 10 from by rw [e3, List.length_append]; have := HL2.out; have : (Zi base).length = 2 := (by first | rfl | simp); omega)
 have HE3 := VL e3
 clear e3
 have HS := VL hs
 clear hs
 obtain ⟨Zc, hf1, hl1⟩ := ZO.all (HS.out.at 2 rfl)
 rw [HC1.out] at Zc
 obtain ⟨hcb, hfb, hlb⟩ := (show ZO _ B 60 #[_] from HS.out.at 1 rfl).one
 have hal : (ZF.length : Int) < 65536 := by omega
 have HC := VL (Ws (I := I) B 60 vb l3 ZF.length HS.out (by have := HL3.out; omega) ⟨by omega, by omega⟩)
 go_wp2_with fail
 go_at_call 52
 refine HC.out.mono ?_
 clear Zc hf1 hl1 hcb hfb hlb
 clear HS HC vb
 rintro e w2 ⟨_, _, _, rfl, _, hs, rfl, rfl, vb, rfl⟩
 obtain ⟨l4, e4⟩ : ∃ z, z = l3 ++ Zi ZF.length := ⟨_, rfl⟩
 rw [<- e4] at hs
 have HL4 := VL (show l4.length <= 12 from by rw [e4, List.length_append]; have := HL3.out; have : (Zi ZF.length).length = 2 := (by first | rfl | simp); omega)
 have HE4 := VL e4
 clear e4
 have HS := VL hs
 clear hs
 obtain ⟨Zc, hf1, hl1⟩ := ZO.all (HS.out.at 2 rfl)
 rw [HC1.out] at Zc
 obtain ⟨hcb, hfb, hlb⟩ := (show ZO _ B 60 #[_] from HS.out.at 1 rfl).one
 clear hal
 have hrc := or_ref HOK.out.ref HOK.out.count
 simp only [] at hrc
 obtain ⟨hrf1, hrf2⟩ : 0 <= ref /\ ref <= 16777215 := HOK.out.ref
 obtain ⟨hct1, hct2⟩ : 0 <= count /\ count <= 255 := HOK.out.count
 have HC := VL (Xk (I := I) B 60 vb l4 (ref * 256 + count) HS.out (by have := HL4.out; omega) ⟨by omega, by omega⟩)
 go_wp2_with fail
 go_at_call 48
 refine HC.out.mono ?_
 clear Zc hf1 hl1 hcb hfb hlb
 clear HS HC vb
 rintro e w2 ⟨_, _, _, rfl, _, hs, rfl, rfl, vb, rfl⟩
 obtain ⟨l5, e5⟩ : ∃ z, z = l4 ++ ZM (ref * 256 + count) := ⟨_, rfl⟩
 rw [<- e5] at hs
 have HL5 := VL (show l5.length <= 16 from by rw [e5, List.length_append]; have := HL4.out; have : (ZM (ref * 256 + count)).length = 4 := (by first | rfl | simp); omega)
 have HE5 := VL e5
 clear e5
 have HS := VL hs
 clear hs
 obtain ⟨Zc, hf1, hl1⟩ := ZO.all (HS.out.at 2 rfl)
 rw [HC1.out] at Zc
 obtain ⟨hcb, hfb, hlb⟩ := (show ZO _ B 60 #[_] from HS.out.at 1 rfl).one
 clear hrc hrf1 hrf2 hct1 hct2
 go_upto_region 33 with fail
 have hs := ((HS.out.alloc 60 #[.slice none 0 0]).alloc 3 #[.int .i64 0]).alloc 42 #[.int .u16 0]
 simp only [World.size_alloc] at hs
 generalize hF : w2.heap.size = F at hs ⊢
 generalize World.alloc _ (Obj.cells #[.int .u16 0] 42) = w3 at hs ⊢
 obtain ⟨NB, hNB⟩ : ∃ z, z = F + 1 := ⟨_, rfl⟩
 rw [<- hNB] at hs ⊢
 obtain ⟨CB, hCB⟩ : ∃ z, z = NB + 1 := ⟨_, rfl⟩
 rw [<- hCB] at hs ⊢
 clear hF hNB hCB HS
 have HC := VL (marks53 w3 aA ZF.length az)
 have YN := hs.alloc 48 #[.slice aA ZF.length az]
 clear Zc hf1 hl1 hcb hfb hlb
 obtain ⟨Zc, hf1, hl1⟩ := ZO.all (hs.at 5 rfl)
 rw [HC1.out] at Zc
 go_wp2_with fail
 go_at_call 53
 refine HC.out.mono ?_
 rintro e w4 ⟨rfl, hw⟩
 rw [<- hw] at YN
 generalize w3.heap.size = PB at YN ⊢
 clear hw HC hs Zc hf1 hl1
 have hs : St I (row 5 1 vb (l5 ++ ms0.Wz).length (Z6 (l5 ++ ms0.Wz)) :: bk B 60 #[vb] :: row 5 1 (.slice none 0 0) ms0.far.length (Z6 ms0.far) :: bk F 60 #[.slice none 0 0] :: bk NB 3 #[.int .i64 ms0.n] :: bk CB 42 #[.int .u16 ms0.ch] :: bk PB 48 #[.slice aA ZF.length az] :: bk q1 51 cs1 :: row 5 1 v lw.length (Z6 lw) :: bk p 60 #[v] :: M) w4 := by rw [show l5 ++ ms0.Wz = l5 from List.append_nil _]; exact YN.nil.ord7
 have HS := VL hs
 clear hs YN
 go_wp2_with fail
 refine range_two (α := Int × Int) (σ := Ms) (okM ZF.length) (Y2 ZF.length) ms0 (gf := 71) (lb := #[.pointer (some ⟨PB, 0, none⟩)]) 118 119 14 15 rfl (fun args w => by kernel_rfl) (fun x => .int .i64 x.1) (fun x => .int .i64 x.2) (XM I aA ZF.length az l5 (w4.heap.size + 1) w4.heap.size PB B F NB CB (bk q1 51 cs1 :: row 5 1 v lw.length (Z6 lw) :: bk p 60 #[v] :: M)) (fun o s W ⟨u, uf, h⟩ => h.at 7 rfl) (fun o o' s W ⟨u, uf, h⟩ => ⟨u, uf, (h.up7.putOb o').dn7⟩) (fun o => ⟨vb, _, (HS.out.enterLoop o).rot27⟩) ?_ ?_ (fun s => s = WL ZF) ?_ ?_
 ·intro l x W K hK
  simp only [List.setIfInBounds_toArray, List.set_cons_succ, List.set_cons_zero] at hK ⊢
  gi_wp2
  exact hK
 ·rintro o s ⟨m, a⟩ W ⟨u, uf, hs⟩ ⟨ok1, ok2, ok3, ⟨ok4, ok5⟩, ok6, ok7⟩
  simp only [] at ok6 ok7 ⊢
  generalize w4.heap.size = D at hs ⊢
  simp only [List.setIfInBounds_toArray, List.set_cons_succ, List.set_cons_zero]
  obtain ⟨hcN, hfN, hlN⟩ := (show ZO _ NB 3 #[_] from hs.at 4 rfl).one
  obtain ⟨hcC, hfC, hlC⟩ := (show ZO _ CB 42 #[_] from hs.at 5 rfl).one
  have hne : CB ≠ NB := by intro e; have h := hs.at 4 rfl; have h2 := hs.at 5 rfl; rw [e] at h2; exact absurd ((show W.heap[NB]? = _ from h).symm.trans (show W.heap[NB]? = _ from h2)) (by simp)
  have hmo : Try.prog.follows .mixedOrders = true := by kernel_rfl
  obtain ⟨d, hd⟩ : ∃ d : Int, d = (s.n : Int) % 7 := ⟨_, rfl⟩
  have htm : (s.n : Int).tmod 7 = d := by rw [Int.tmod_eq_emod_of_nonneg (by omega), hd]
  obtain ⟨hd1, hd2⟩ : 0 <= d /\ d <= 6 := by omega
  have HD := VL hd
  clear hd
  have hw1 : IntKind.i64.wrap (2 * d) = 2 * d := wrap_i64 (by omega) (by omega)
  have hw2 : IntKind.i64.wrap (12 - 2 * d) = 12 - 2 * d := wrap_i64 (by omega) (by omega)
  have hw3 : IntKind.u16.wrap m = m := by rw [Y9]; omega
  have hm1 : 0 <= 12 - 2 * d := by omega
  have HS := VL hs
  clear hs
  gi_wp2_with fail
  refine region_last_round (S := (fun w' => w'.cell? ⟨NB, 0, none⟩ = some (.int .i64 s.n) /\ w'.cell? ⟨CB, 0, none⟩ = some (.int .u16 s.ch))) (by kernel_rfl) (by kernel_rfl) (by (try dsimp only); exact ⟨hcN, hcC⟩) (fun ZL => ?_)
  refine wt 0 8 rfl (by kernel_rfl) (fun _ _ _ h => h) rfl ‹_› (by intro w h;go_simp;try with_reducible rfl) ?_
  try go_frame
  refine wt 1 2 rfl (by kernel_rfl) (fun _ _ _ h => h) rfl ‹_› (by intro w h;go_simp;try with_reducible rfl) ?_
  try go_frame
  refine wt 2 7 rfl (by kernel_rfl) (fun _ _ _ h => h) rfl ‹_› (by intro w h;go_simp;try with_reducible rfl) ?_
  try go_frame
  refine wt 3 4 rfl (by kernel_rfl) (fun _ _ _ h => h) rfl ‹_› (by intro w h;go_simp;try with_reducible rfl) ?_
  try go_frame
  refine wt 4 5 rfl (by kernel_rfl) (fun _ _ _ h => h) rfl ‹_› (by intro w h;go_simp;try with_reducible rfl) ?_
  try go_frame
  refine wt 5 6 rfl (by kernel_rfl) (fun _ _ _ h => h) rfl ‹_› (by intro w h;go_simp;try with_reducible rfl) ?_
  try go_frame
  refine wt 6 7 rfl (by kernel_rfl) (fun _ _ _ h => h) rfl ‹_› (by intro w h;go_simp;try with_reducible rfl) ?_
  try go_frame
  refine wt 7 8 rfl (by kernel_rfl) (fun _ _ _ h => h) rfl ‹_› (by intro w h;go_simp;try with_reducible rfl) ?_
  try go_frame
  refine wt 8 9 rfl (by kernel_rfl) (fun _ _ _ h => h) rfl ‹_› (by intro w h;go_simp;try with_reducible rfl) ?_
  try go_frame
  refine Yi (i := 9) (o := _) (by kernel_rfl) rfl (by kernel_rfl) (by kernel_rfl) (fun K hK => ?_)
  go_simp
  try clear ZL
  refine hK.out _ _ ?_
  clear hK K
  try go_frame
  simp only [roundQ, Exit.then]
  have hch : bits BinOp.or IntKind.u16 s.ch (IntKind.u16.wrap (m * 2 ^ (12 - 2 * d).toNat)) = chM s m := by unfold chM; rw [show (12 - 2 * d).toNat = 12 - 2 * (s.n % 7) from by have := HD.out; omega]
  rw [hch]
  have hs := (HS.out.set5 0 (.int .u16 (chM s m))).drew
  simp only [List.setIfInBounds_toArray, List.set_cons_zero] at hs
  generalize World.drew _ = W1 at hs ⊢
  clear hcN hfN hlN hcC hfC hlC HS hch
  have HS := VL hs
  clear hs
  obtain ⟨hcN, hfN, hlN⟩ := (show ZO _ NB 3 #[_] from HS.out.at 4 rfl).one
  obtain ⟨hcC, hfC, hlC⟩ := (show ZO _ CB 42 #[_] from HS.out.at 5 rfl).one
  obtain ⟨d2, hd2⟩ : ∃ d2 : Int, d2 = ((s.n : Int) + 1) % 7 := ⟨_, rfl⟩
  have htm2 : ((s.n : Int) + 1).tmod 7 = d2 := by rw [Int.tmod_eq_emod_of_nonneg (by omega), hd2]
  have hwn : IntKind.i64.wrap ((s.n : Int) + 1) = (s.n : Int) + 1 := wrap_i64 (by omega) (by omega)
  have hu8 := u8_mod a
  have hu16 := Y9 a
  have HD2 := VL hd2
  clear hd2 hw1 hw2 hw3 hm1 htm hd1 HD
  have HOK5 := VL (And.intro ok1 (And.intro ok2 (And.intro ok3 (And.intro ok4 ok5))))
  have hmm : m = 0 \/ m = 1 \/ m = 2 := by omega
  rcases hmm with rfl | rfl | rfl
  ·by_cases h7 : d2 = 0
   ·skip
    have hq : (d2 == 0) = true := by rw [h7]; rfl
    have hfu : XH ZF.length s = true := by unfold XH; have := HD2.out; rw [decide_eq_true (p := (s.n + 1) % 7 = 0) (by omega)]; rfl
    have HFU := VL hfu
    clear hfu
    obtain ⟨Zc, hf1, hl1⟩ := ZO.all (HS.out.at 9 rfl)
    rw [HC1.out] at Zc
    have hs := HS.out.set4 0 (.int .i64 ((s.n : Int) + 1))
    simp only [List.setIfInBounds_toArray, List.set_cons_zero] at hs
    clear HS
    have HC := VL (Ws (I := I) B 60 u (l5 ++ s.Wz) (bits BinOp.or IntKind.u16 49152 (chM s 0)) hs (by have h1 := HOK5.out; have := HL5.out; rw [List.length_append]; omega) (X3 _ _ _ rfl))
    clear hs
    gi_wp2_with fail
    refine ⟨trivial, rfl, ?_⟩
    refine (CallsIn.inRound _ (callsIn_wide.2 HC.out)).mono ?_
    clear HC Zc hf1 hl1 hcN hfN hlN hcC hfC hlC
    rintro e w5 ⟨_, _, _, rfl, _, hs, rfl, rfl, u, rfl⟩
    obtain ⟨hcC, hfC, hlC⟩ := (show ZO _ CB 42 #[_] from hs.at 5 rfl).one
    have hs := hs.set5 0 (.int .u16 0)
    simp only [List.setIfInBounds_toArray, List.set_cons_zero] at hs
    have HS := VL hs
    clear hs
    gi_wp2
    have hs := HS.out
    have e : Y2 ZF.length s (0, a) = ⟨s.Wz ++ Zi (bits BinOp.or IntKind.u16 49152 (chM s 0)), s.far, s.n + 1, 0⟩ := by unfold Y2; rw [HFU.out]; rfl
    rw [List.append_assoc l5] at hs
    refine ⟨u, uf, ?_⟩
    rw [e]
    exact hs
   by_cases hN : (s.n : Int) + 1 = ZF.length
   ·skip
    have hq : (d2 == 0) = false := beq_eq_false_iff_ne.2 h7
    have hq2 : (((s.n : Int) + 1) == (ZF.length : Int)) = true := beq_iff_eq.2 hN
    have hfu : XH ZF.length s = true := by unfold XH; rw [decide_eq_true (p := s.n + 1 = ZF.length) (by omega), Bool.or_true]
    clear hN
    have HFU := VL hfu
    clear hfu
    obtain ⟨Zc, hf1, hl1⟩ := ZO.all (HS.out.at 9 rfl)
    rw [HC1.out] at Zc
    have hs := HS.out.set4 0 (.int .i64 ((s.n : Int) + 1))
    simp only [List.setIfInBounds_toArray, List.set_cons_zero] at hs
    clear HS
    have HC := VL (Ws (I := I) B 60 u (l5 ++ s.Wz) (bits BinOp.or IntKind.u16 49152 (chM s 0)) hs (by have h1 := HOK5.out; have := HL5.out; rw [List.length_append]; omega) (X3 _ _ _ rfl))
    clear hs
    gi_wp2_with fail
    refine ⟨trivial, rfl, ?_⟩
    refine (CallsIn.inRound _ (callsIn_wide.2 HC.out)).mono ?_
    clear HC Zc hf1 hl1 hcN hfN hlN hcC hfC hlC
    rintro e w5 ⟨_, _, _, rfl, _, hs, rfl, rfl, u, rfl⟩
    obtain ⟨hcC, hfC, hlC⟩ := (show ZO _ CB 42 #[_] from hs.at 5 rfl).one
    have hs := hs.set5 0 (.int .u16 0)
    simp only [List.setIfInBounds_toArray, List.set_cons_zero] at hs
    have HS := VL hs
    clear hs
    gi_wp2
    have hs := HS.out
    have e : Y2 ZF.length s (0, a) = ⟨s.Wz ++ Zi (bits BinOp.or IntKind.u16 49152 (chM s 0)), s.far, s.n + 1, 0⟩ := by unfold Y2; rw [HFU.out]; rfl
    rw [List.append_assoc l5] at hs
    refine ⟨u, uf, ?_⟩
    rw [e]
    exact hs
   have hq : (d2 == 0) = false := beq_eq_false_iff_ne.2 h7
   have hq2 : (((s.n : Int) + 1) == (ZF.length : Int)) = false := beq_eq_false_iff_ne.2 hN
   have hfu : XH ZF.length s = false := by unfold XH; have := HD2.out; rw [decide_eq_false (p := (s.n + 1) % 7 = 0) (by omega), decide_eq_false (p := s.n + 1 = ZF.length) (by omega)]; rfl
   have HFU := VL hfu
   clear hfu
   obtain ⟨Zc, hf1, hl1⟩ := ZO.all (HS.out.at 9 rfl)
   rw [HC1.out] at Zc
   have hs := HS.out.set4 0 (.int .i64 ((s.n : Int) + 1))
   simp only [List.setIfInBounds_toArray, List.set_cons_zero] at hs
   clear HS
   have HS := VL hs
   clear hs
   gi_wp2
   have hs := HS.out
   have e : Y2 ZF.length s (0, a) = ⟨s.Wz, s.far, s.n + 1, chM s 0⟩ := by unfold Y2; rw [HFU.out]; rfl
   refine ⟨u, uf, ?_⟩
   rw [e]
   exact hs
  ·by_cases h7 : d2 = 0
   ·skip
    have hq : (d2 == 0) = true := by rw [h7]; rfl
    have hfu : XH ZF.length s = true := by unfold XH; have := HD2.out; rw [decide_eq_true (p := (s.n + 1) % 7 = 0) (by omega)]; rfl
    have HFU := VL hfu
    clear hfu
    obtain ⟨Zc, hf1, hl1⟩ := ZO.all (HS.out.at 9 rfl)
    rw [HC1.out] at Zc
    have hs := HS.out.set4 0 (.int .i64 ((s.n : Int) + 1))
    simp only [List.setIfInBounds_toArray, List.set_cons_zero] at hs
    clear HS
    have HC := VL (Ws (I := I) B 60 u (l5 ++ s.Wz) (bits BinOp.or IntKind.u16 49152 (chM s 1)) hs (by have h1 := HOK5.out; have := HL5.out; rw [List.length_append]; omega) (X3 _ _ _ rfl))
    clear hs
    gi_wp2_with fail
    refine ⟨trivial, rfl, ?_⟩
    refine (CallsIn.inRound _ (callsIn_wide.2 HC.out)).mono ?_
    clear HC Zc hf1 hl1 hcN hfN hlN hcC hfC hlC
    rintro e w5 ⟨_, _, _, rfl, _, hs, rfl, rfl, u, rfl⟩
    obtain ⟨hcC, hfC, hlC⟩ := (show ZO _ CB 42 #[_] from hs.at 5 rfl).one
    have hs := hs.set5 0 (.int .u16 0)
    simp only [List.setIfInBounds_toArray, List.set_cons_zero] at hs
    have hs := hs.X4
    have HC := VL (wU8 (I := I) F 60 uf s.far (a % 256) hs (by have h1 := HOK5.out; omega) (by omega))
    clear hs
    gi_wp2_with fail
    refine ⟨trivial, rfl, ?_⟩
    refine (CallsIn.inRound _ (callsIn_wide.2 HC.out)).mono ?_
    clear HC
    rintro e w6 ⟨_, _, _, rfl, _, hs, rfl, rfl, uf, rfl⟩
    have hs := hs.X4
    have HS := VL hs
    clear hs
    gi_wp2
    have hs := HS.out
    have e : Y2 ZF.length s (1, a) = ⟨s.Wz ++ Zi (bits BinOp.or IntKind.u16 49152 (chM s 1)), s.far ++ [byteOf (a % 256)], s.n + 1, 0⟩ := by unfold Y2; rw [HFU.out]; rfl
    rw [List.append_assoc l5] at hs
    refine ⟨u, uf, ?_⟩
    rw [e]
    exact hs
   by_cases hN : (s.n : Int) + 1 = ZF.length
   ·skip
    have hq : (d2 == 0) = false := beq_eq_false_iff_ne.2 h7
    have hq2 : (((s.n : Int) + 1) == (ZF.length : Int)) = true := beq_iff_eq.2 hN
    have hfu : XH ZF.length s = true := by unfold XH; rw [decide_eq_true (p := s.n + 1 = ZF.length) (by omega), Bool.or_true]
    clear hN
    have HFU := VL hfu
    clear hfu
    obtain ⟨Zc, hf1, hl1⟩ := ZO.all (HS.out.at 9 rfl)
    rw [HC1.out] at Zc
    have hs := HS.out.set4 0 (.int .i64 ((s.n : Int) + 1))
    simp only [List.setIfInBounds_toArray, List.set_cons_zero] at hs
    clear HS
    have HC := VL (Ws (I := I) B 60 u (l5 ++ s.Wz) (bits BinOp.or IntKind.u16 49152 (chM s 1)) hs (by have h1 := HOK5.out; have := HL5.out; rw [List.length_append]; omega) (X3 _ _ _ rfl))
    clear hs
    gi_wp2_with fail
    refine ⟨trivial, rfl, ?_⟩
    refine (CallsIn.inRound _ (callsIn_wide.2 HC.out)).mono ?_
    clear HC Zc hf1 hl1 hcN hfN hlN hcC hfC hlC
    rintro e w5 ⟨_, _, _, rfl, _, hs, rfl, rfl, u, rfl⟩
    obtain ⟨hcC, hfC, hlC⟩ := (show ZO _ CB 42 #[_] from hs.at 5 rfl).one
    have hs := hs.set5 0 (.int .u16 0)
    simp only [List.setIfInBounds_toArray, List.set_cons_zero] at hs
    have hs := hs.X4
    have HC := VL (wU8 (I := I) F 60 uf s.far (a % 256) hs (by have h1 := HOK5.out; omega) (by omega))
    clear hs
    gi_wp2_with fail
    refine ⟨trivial, rfl, ?_⟩
    refine (CallsIn.inRound _ (callsIn_wide.2 HC.out)).mono ?_
    clear HC
    rintro e w6 ⟨_, _, _, rfl, _, hs, rfl, rfl, uf, rfl⟩
    have hs := hs.X4
    have HS := VL hs
    clear hs
    gi_wp2
    have hs := HS.out
    have e : Y2 ZF.length s (1, a) = ⟨s.Wz ++ Zi (bits BinOp.or IntKind.u16 49152 (chM s 1)), s.far ++ [byteOf (a % 256)], s.n + 1, 0⟩ := by unfold Y2; rw [HFU.out]; rfl
    rw [List.append_assoc l5] at hs
    refine ⟨u, uf, ?_⟩
    rw [e]
    exact hs
   have hq : (d2 == 0) = false := beq_eq_false_iff_ne.2 h7
   have hq2 : (((s.n : Int) + 1) == (ZF.length : Int)) = false := beq_eq_false_iff_ne.2 hN
   have hfu : XH ZF.length s = false := by unfold XH; have := HD2.out; rw [decide_eq_false (p := (s.n + 1) % 7 = 0) (by omega), decide_eq_false (p := s.n + 1 = ZF.length) (by omega)]; rfl
   have HFU := VL hfu
   clear hfu
   obtain ⟨Zc, hf1, hl1⟩ := ZO.all (HS.out.at 9 rfl)
   rw [HC1.out] at Zc
   have hs := HS.out.set4 0 (.int .i64 ((s.n : Int) + 1))
   simp only [List.setIfInBounds_toArray, List.set_cons_zero] at hs
   clear HS
   have hs := hs.X4
   have HC := VL (wU8 (I := I) F 60 uf s.far (a % 256) hs (by have h1 := HOK5.out; omega) (by omega))
   clear hs
   gi_wp2_with fail
   refine ⟨trivial, rfl, ?_⟩
   refine (CallsIn.inRound _ (callsIn_wide.2 HC.out)).mono ?_
   clear HC
   rintro e w6 ⟨_, _, _, rfl, _, hs, rfl, rfl, uf, rfl⟩
   have hs := hs.X4
   have HS := VL hs
   clear hs
   gi_wp2
   have hs := HS.out
   have e : Y2 ZF.length s (1, a) = ⟨s.Wz, s.far ++ [byteOf (a % 256)], s.n + 1, chM s 1⟩ := by unfold Y2; rw [HFU.out]; rfl
   refine ⟨u, uf, ?_⟩
   rw [e]
   exact hs
  by_cases h7 : d2 = 0
  ·skip
   have hq : (d2 == 0) = true := by rw [h7]; rfl
   have hfu : XH ZF.length s = true := by unfold XH; have := HD2.out; rw [decide_eq_true (p := (s.n + 1) % 7 = 0) (by omega)]; rfl
   have HFU := VL hfu
   clear hfu
   obtain ⟨Zc, hf1, hl1⟩ := ZO.all (HS.out.at 9 rfl)
   rw [HC1.out] at Zc
   have hs := HS.out.set4 0 (.int .i64 ((s.n : Int) + 1))
   simp only [List.setIfInBounds_toArray, List.set_cons_zero] at hs
   clear HS
   have HC := VL (Ws (I := I) B 60 u (l5 ++ s.Wz) (bits BinOp.or IntKind.u16 49152 (chM s 2)) hs (by have h1 := HOK5.out; have := HL5.out; rw [List.length_append]; omega) (X3 _ _ _ rfl))
   clear hs
   gi_wp2_with fail
   refine ⟨trivial, rfl, ?_⟩
   refine (CallsIn.inRound _ (callsIn_wide.2 HC.out)).mono ?_
   clear HC Zc hf1 hl1 hcN hfN hlN hcC hfC hlC
   rintro e w5 ⟨_, _, _, rfl, _, hs, rfl, rfl, u, rfl⟩
   obtain ⟨hcC, hfC, hlC⟩ := (show ZO _ CB 42 #[_] from hs.at 5 rfl).one
   have hs := hs.set5 0 (.int .u16 0)
   simp only [List.setIfInBounds_toArray, List.set_cons_zero] at hs
   have hs := hs.X4
   have HC := VL (Ws (I := I) F 60 uf s.far (a % 65536) hs (by have h1 := HOK5.out; omega) (by omega))
   clear hs
   gi_wp2_with fail
   refine ⟨trivial, rfl, ?_⟩
   refine (CallsIn.inRound _ (callsIn_wide.2 HC.out)).mono ?_
   clear HC
   rintro e w6 ⟨_, _, _, rfl, _, hs, rfl, rfl, uf, rfl⟩
   have hs := hs.X4
   have HS := VL hs
   clear hs
   gi_wp2
   have hs := HS.out
   have e : Y2 ZF.length s (2, a) = ⟨s.Wz ++ Zi (bits BinOp.or IntKind.u16 49152 (chM s 2)), s.far ++ Zi (a % 65536), s.n + 1, 0⟩ := by unfold Y2; rw [HFU.out]; rfl
   rw [List.append_assoc l5] at hs
   refine ⟨u, uf, ?_⟩
   rw [e]
   exact hs
  by_cases hN : (s.n : Int) + 1 = ZF.length
  ·skip
   have hq : (d2 == 0) = false := beq_eq_false_iff_ne.2 h7
   have hq2 : (((s.n : Int) + 1) == (ZF.length : Int)) = true := beq_iff_eq.2 hN
   have hfu : XH ZF.length s = true := by unfold XH; rw [decide_eq_true (p := s.n + 1 = ZF.length) (by omega), Bool.or_true]
   clear hN
   have HFU := VL hfu
   clear hfu
   obtain ⟨Zc, hf1, hl1⟩ := ZO.all (HS.out.at 9 rfl)
   rw [HC1.out] at Zc
   have hs := HS.out.set4 0 (.int .i64 ((s.n : Int) + 1))
   simp only [List.setIfInBounds_toArray, List.set_cons_zero] at hs
   clear HS
   have HC := VL (Ws (I := I) B 60 u (l5 ++ s.Wz) (bits BinOp.or IntKind.u16 49152 (chM s 2)) hs (by have h1 := HOK5.out; have := HL5.out; rw [List.length_append]; omega) (X3 _ _ _ rfl))
   clear hs
   gi_wp2_with fail
   refine ⟨trivial, rfl, ?_⟩
   refine (CallsIn.inRound _ (callsIn_wide.2 HC.out)).mono ?_
   clear HC Zc hf1 hl1 hcN hfN hlN hcC hfC hlC
   rintro e w5 ⟨_, _, _, rfl, _, hs, rfl, rfl, u, rfl⟩
   obtain ⟨hcC, hfC, hlC⟩ := (show ZO _ CB 42 #[_] from hs.at 5 rfl).one
   have hs := hs.set5 0 (.int .u16 0)
   simp only [List.setIfInBounds_toArray, List.set_cons_zero] at hs
   have hs := hs.X4
   have HC := VL (Ws (I := I) F 60 uf s.far (a % 65536) hs (by have h1 := HOK5.out; omega) (by omega))
   clear hs
   gi_wp2_with fail
   refine ⟨trivial, rfl, ?_⟩
   refine (CallsIn.inRound _ (callsIn_wide.2 HC.out)).mono ?_
   clear HC
   rintro e w6 ⟨_, _, _, rfl, _, hs, rfl, rfl, uf, rfl⟩
   have hs := hs.X4
   have HS := VL hs
   clear hs
   gi_wp2
   have hs := HS.out
   have e : Y2 ZF.length s (2, a) = ⟨s.Wz ++ Zi (bits BinOp.or IntKind.u16 49152 (chM s 2)), s.far ++ Zi (a % 65536), s.n + 1, 0⟩ := by unfold Y2; rw [HFU.out]; rfl
   rw [List.append_assoc l5] at hs
   refine ⟨u, uf, ?_⟩
   rw [e]
   exact hs
  have hq : (d2 == 0) = false := beq_eq_false_iff_ne.2 h7
  have hq2 : (((s.n : Int) + 1) == (ZF.length : Int)) = false := beq_eq_false_iff_ne.2 hN
  have hfu : XH ZF.length s = false := by unfold XH; have := HD2.out; rw [decide_eq_false (p := (s.n + 1) % 7 = 0) (by omega), decide_eq_false (p := s.n + 1 = ZF.length) (by omega)]; rfl
  have HFU := VL hfu
  clear hfu
  obtain ⟨Zc, hf1, hl1⟩ := ZO.all (HS.out.at 9 rfl)
  rw [HC1.out] at Zc
  have hs := HS.out.set4 0 (.int .i64 ((s.n : Int) + 1))
  simp only [List.setIfInBounds_toArray, List.set_cons_zero] at hs
  clear HS
  have hs := hs.X4
  have HC := VL (Ws (I := I) F 60 uf s.far (a % 65536) hs (by have h1 := HOK5.out; omega) (by omega))
  clear hs
  gi_wp2_with fail
  refine ⟨trivial, rfl, ?_⟩
  refine (CallsIn.inRound _ (callsIn_wide.2 HC.out)).mono ?_
  clear HC
  rintro e w6 ⟨_, _, _, rfl, _, hs, rfl, rfl, uf, rfl⟩
  have hs := hs.X4
  have HS := VL hs
  clear hs
  gi_wp2
  have hs := HS.out
  have e : Y2 ZF.length s (2, a) = ⟨s.Wz, s.far ++ Zi (a % 65536), s.n + 1, chM s 2⟩ := by unfold Y2; rw [HFU.out]; rfl
  refine ⟨u, uf, ?_⟩
  rw [e]
  exact hs
 ·intro o hy W hx
  refine callsIn_wide.2 ((marks71 (okM ZF.length) (Y2 ZF.length) (XM I aA ZF.length az l5 (w4.heap.size + 1) w4.heap.size PB B F NB CB (bk q1 51 cs1 :: row 5 1 v lw.length (Z6 lw) :: bk p 60 #[v] :: M) o) I _ PB ZF aA az HCA.out (by omega) (fun s W ⟨u, uf, h⟩ => ⟨_, h.up6⟩) hy ms0 (okM_all ZF) W hx).mono ?_)
  rintro e W' ⟨hv, hX⟩
  exact ⟨hv, _, rfl, hX⟩
 rintro o s W rfl ⟨u, uf, hs⟩
 generalize w4.heap.size = D at hs ⊢
 clear HS
 have hml := (foldM_ok ZF.length ZF (Nat.le_refl _)).2
 have hs := hs.out9
 obtain ⟨FA, fc, rfl⟩ := ZW (show World.ownsRow _ 0 5 1 uf (WL ZF).far.length (Z6 (WL ZF).far) from hs.at 2 rfl)
 obtain ⟨hcF, hfF, hlF⟩ := (show ZO _ F 60 #[_] from hs.at 3 rfl).one
 have hs := hs.X4
 obtain ⟨J0, hle0, hs, hA⟩ := hs.ZR
 have hs := hs.dn6
 have hs : St J0 (row 5 1 u (l5 ++ (WL ZF).Wz).length (Z6 (l5 ++ (WL ZF).Wz)) :: bk B 60 #[u] :: bk q1 51 cs1 :: row 5 1 v lw.length (Z6 lw) :: bk p 60 #[v] :: obk D (.deferred (some [])) :: M) W := hs
 have HCR := VL (HCR.out.mono hle0)
 have HCS := VL (HCS.out.mono hle0)
 have HCW := VL (HCW.out.mono hle0)
 have HLE0 := VL hle0
 obtain ⟨vb, hvb⟩ : ∃ z, z = u := ⟨_, rfl⟩
 rw [<- hvb] at hs
 obtain ⟨l6, e6⟩ : ∃ z, z = l5 ++ (WL ZF).Wz := ⟨_, rfl⟩
 rw [<- e6] at hs
 have HL6 := VL (show l6.length <= 526 from by rw [e6, List.length_append]; have := HL5.out; have h2 : (WL ZF).Wz.length <= 2 * ZF.length := hml.1; omega)
 have HE6 := VL e6
 clear e6
 have HS := VL hs
 clear hs
 simp only [Exit.inBlock, Exit.then]
 obtain ⟨Zc, hf1, hl1⟩ := ZO.all (HS.out.at 2 rfl)
 rw [HC1.out] at Zc
 obtain ⟨hcb, hfb, hlb⟩ := (show ZO _ B 60 #[_] from HS.out.at 1 rfl).one
 have HC := VL (Wt (I := J0) B 60 vb l6 FA fc (WL ZF).far HS.out (by have := HL6.out; have h2 : (WL ZF).far.length <= 2 * ZF.length := hml.2.1; omega) (fun w2 N h => Zq.src (e := 5) (show Zq J0 FA (WL ZF).far from hA) h Try.underlying24 fc))
 go_wp2_with fail
 go_at_call 50
 refine HC.out.mono ?_
 clear Zc hf1 hl1 hcb hfb hlb
 clear HS HC hcF hfF hlF
 rintro e w2 ⟨_, _, _, rfl, _, hs, rfl, rfl, vb, rfl⟩
 obtain ⟨l7, e7⟩ : ∃ z, z = l6 ++ (WL ZF).far := ⟨_, rfl⟩
 rw [<- e7] at hs
 have HL7 := VL (show l7.length <= 1036 from by rw [e7, List.length_append]; have := HL6.out; have h2 : (WL ZF).far.length <= 2 * ZF.length := hml.2.1; omega)
 have HE7 := VL e7
 clear e7
 have HS := VL hs
 clear hs
 obtain ⟨Zc, hf1, hl1⟩ := ZO.all (HS.out.at 2 rfl)
 rw [HC1.out] at Zc
 obtain ⟨hcb, hfb, hlb⟩ := (show ZO _ B 60 #[_] from HS.out.at 1 rfl).one
 go_upto_region 47 with fail
 go_upto_region 48 with fail
 clear Zc hf1 hl1 hcb hfb hlb
 go_loopw [160] (fun iv wr => ∃ i : Nat, i <= ZE.length /\ iv = .int .i64 i /\ Hid (∃ vb, St J0 (row 5 1 vb (l7 ++ (ZE.take i).flatMap YK).length (Z6 (l7 ++ (ZE.take i).flatMap YK)) :: bk B 60 #[vb] :: bk q1 51 cs1 :: row 5 1 v lw.length (Z6 lw) :: bk p 60 #[v] :: obk D (.deferred (some [])) :: M) wr)) (fun iv _ => ZE.length - (intOf iv).toNat)
 case atStart => exact ⟨0, by omega, rfl, vb, by simpa using HS.out⟩
 case round =>
  obtain ⟨i, hi, rfl, hh⟩ := hrel
  obtain ⟨vb, hs⟩ := hh.out
  have HS := VL hs
  clear hh hs
  by_cases Z0 : i < ZE.length
  ·skip
   have hsn := Yr YK ZE i Z0
   obtain ⟨g, o, rfl, ZK⟩ := flat_get (s := 7) (fun _ => rfl) HCR.out (by omega) (by decide)
   have hm := HOK.out.ZE _ (List.getElem_mem Z0)
   replace ZK : ∀ j, j < 7 -> wr.cell? ⟨g, o + i * 7 + j, none⟩ = (Yt ZE[i])[j]? := fun j hj => ZK _ _ HS.out i Z0 j hj
   obtain ⟨x, hxe⟩ : ∃ x, x = ZE[i] := ⟨_, rfl⟩
   rw [<- hxe] at ZK hm hsn
   have z0 : wr.cell? ⟨g, o + i * 7, none⟩ = some (.int .u32 x.src) := ZK 0 (by decide)
   have z1 : wr.cell? ⟨g, o + i * 7 + 1, none⟩ = some (.int .u8 x.lost) := ZK 1 (by decide)
   have z2 : wr.cell? ⟨g, o + i * 7 + 2, none⟩ = some (.int .u32 x.total) := ZK 2 (by decide)
   have z3 : wr.cell? ⟨g, o + i * 7 + 3, none⟩ = some (.int .u32 x.high) := ZK 3 (by decide)
   have z4 : wr.cell? ⟨g, o + i * 7 + 4, none⟩ = some (.int .u32 x.Xw) := ZK 4 (by decide)
   have z5 : wr.cell? ⟨g, o + i * 7 + 5, none⟩ = some (.int .u32 x.last) := ZK 5 (by decide)
   have z6 : wr.cell? ⟨g, o + i * 7 + 6, none⟩ = some (.int .u32 x.delay) := ZK 6 (by decide)
   obtain ⟨lb, e1⟩ : ∃ z, z = l7 ++ (ZE.take i).flatMap YK := ⟨_, rfl⟩
   have HL := VL (show lb.length <= 1780 from by rw [e1, List.length_append]; have := HL7.out; have := Xl (f := YK) (s := 24) (n := 31) (fun x => by first | rfl | exact Za x) ZE i (by omega); omega)
   have hs := HS.out
   rw [<- e1] at hs
   have HSN := VL (And.intro e1 hsn)
   clear HS ZK hsn hxe e1
   have HS := VL hs
   clear hs
   have hs := HS.out.grow (.cells #[.int .u32 x.src, .int .u8 x.lost, .int .u32 x.total, .int .u32 x.high, .int .u32 x.Xw, .int .u32 x.last, .int .u32 x.delay] 65)
   have HC := VL (repW J0 (bk q1 51 cs1 :: row 5 1 v lw.length (Z6 lw) :: bk p 60 #[v] :: obk D (.deferred (some [])) :: M) _ B 60 vb lb x hm hs (by have := HL.out; omega))
   clear hs HS hm
   go_wp2_with fail
   go_at_call 54
   refine HC.out.mono ?_
   rintro e w2 ⟨_, _, _, rfl, _, hs, rfl, rfl, vb, rfl⟩
   rw [HSN.out.1, List.append_assoc, <- HSN.out.2] at hs
   have HS := VL hs
   clear hs HC HSN
   go_wp2
   go_roundw
   case rel => exact ⟨i + 1, by omega, by go_num, vb, HS.out⟩
   case measure => simp [intOf]; omega
  have hin : i = ZE.length := by omega
  have hs := HS.out
  rw [hin, List.take_length] at hs
  subst hin
  clear HS
  obtain ⟨l8, e8⟩ : ∃ z, z = l7 ++ ZE.flatMap YK := ⟨_, rfl⟩
  rw [<- e8] at hs
  have HL8 := VL (show l8.length <= 1780 from by rw [e8, List.length_append]; have := HL7.out; have := YD (f := YK) (s := 24) (fun x => by first | rfl | exact Za x) ZE; omega)
  have HE8 := VL e8
  clear e8
  have HS := VL hs
  clear hs
  obtain ⟨Zc, hf1, hl1⟩ := ZO.all (HS.out.at 2 rfl)
  rw [HC1.out] at Zc
  obtain ⟨hcb, hfb, hlb⟩ := (show ZO _ B 60 #[_] from HS.out.at 1 rfl).one
  go_upto_region 53 with fail
  clear Zc hf1 hl1 hcb hfb hlb
  go_loopw [170] (fun iv wr => ∃ i : Nat, i <= ZG.length /\ iv = .int .i64 i /\ Hid (∃ vb, St J0 (row 5 1 vb (l8 ++ (ZG.take i).flatMap ZM).length (Z6 (l8 ++ (ZG.take i).flatMap ZM)) :: bk B 60 #[vb] :: bk q1 51 cs1 :: row 5 1 v lw.length (Z6 lw) :: bk p 60 #[v] :: obk D (.deferred (some [])) :: M) wr)) (fun iv _ => ZG.length - (intOf iv).toNat)
  case atStart => exact ⟨0, by omega, rfl, vb, by simpa using HS.out⟩
  case round =>
   obtain ⟨i, hi, rfl, hh⟩ := hrel
   obtain ⟨vb, hs⟩ := hh.out
   have HS := VL hs
   clear hh hs
   by_cases Z0 : i < ZG.length
   ·skip
    have hsn := Yr ZM ZG i Z0
    obtain ⟨g, o, rfl, ZK⟩ := flat_get (s := 1) (fun _ => rfl) HCS.out (by omega) (by decide)
    have hm := HOK.out.ZG _ (List.getElem_mem Z0)
    replace ZK : ∀ j, j < 1 -> wr.cell? ⟨g, o + i * 1 + j, none⟩ = (Xd ZG[i])[j]? := fun j hj => ZK _ _ HS.out i Z0 j hj
    obtain ⟨x, hxe⟩ : ∃ x, x = ZG[i] := ⟨_, rfl⟩
    rw [<- hxe] at ZK hm hsn
    have z0 : wr.cell? ⟨g, o + i, none⟩ = some (.int .u32 x) := by have := ZK 0 (by decide); simpa using this
    obtain ⟨lb, e1⟩ : ∃ z, z = l8 ++ (ZG.take i).flatMap ZM := ⟨_, rfl⟩
    have HL := VL (show lb.length <= 1904 from by rw [e1, List.length_append]; have := HL8.out; have := Xl (f := ZM) (s := 4) (n := 31) (fun x => by first | rfl | exact Za x) ZG i (by omega); omega)
    have hs := HS.out
    rw [<- e1] at hs
    have HSN := VL (And.intro e1 hsn)
    clear HS ZK hsn hxe e1
    have HS := VL hs
    clear hs
    have HC := VL (Xk (I := J0) B 60 vb lb x HS.out (by have := HL.out; omega) hm)
    clear HS hm
    go_wp2_with fail
    go_at_call 48
    refine HC.out.mono ?_
    rintro e w2 ⟨_, _, _, rfl, _, hs, rfl, rfl, vb, rfl⟩
    rw [HSN.out.1, List.append_assoc, <- HSN.out.2] at hs
    have HS := VL hs
    clear hs HC HSN
    go_wp2
    go_roundw
    case rel => exact ⟨i + 1, by omega, by go_num, vb, HS.out⟩
    case measure => simp [intOf]; omega
   have hin : i = ZG.length := by omega
   have hs := HS.out
   rw [hin, List.take_length] at hs
   subst hin
   clear HS
   obtain ⟨l9, e9⟩ : ∃ z, z = l8 ++ ZG.flatMap ZM := ⟨_, rfl⟩
   rw [<- e9] at hs
   have HL9 := VL (show l9.length <= 1904 from by rw [e9, List.length_append]; have := HL8.out; have := YD (f := ZM) (s := 4) (fun x => by first | rfl | exact Za x) ZG; omega)
   have HE9 := VL e9
   clear e9
   have HS := VL hs
   clear hs
   obtain ⟨Zc, hf1, hl1⟩ := ZO.all (HS.out.at 2 rfl)
   rw [HC1.out] at Zc
   obtain ⟨hcb, hfb, hlb⟩ := (show ZO _ B 60 #[_] from HS.out.at 1 rfl).one
   go_upto_region 58 with fail
   clear Zc hf1 hl1 hcb hfb hlb
   go_loopw [180] (fun iv wr => ∃ i : Nat, i <= ZB.length /\ iv = .int .i64 i /\ Hid (∃ vb, St J0 (row 5 1 vb (l9 ++ (ZB.take i).flatMap XU).length (Z6 (l9 ++ (ZB.take i).flatMap XU)) :: bk B 60 #[vb] :: bk q1 51 cs1 :: row 5 1 v lw.length (Z6 lw) :: bk p 60 #[v] :: obk D (.deferred (some [])) :: M) wr)) (fun iv _ => ZB.length - (intOf iv).toNat)
   case atStart => exact ⟨0, by omega, rfl, vb, by simpa using HS.out⟩
   case round =>
    obtain ⟨i, hi, rfl, hh⟩ := hrel
    obtain ⟨vb, hs⟩ := hh.out
    have HS := VL hs
    clear hh hs
    by_cases Z0 : i < ZB.length
    ·skip
     have hsn := Yr XU ZB i Z0
     obtain ⟨g, o, rfl, ZK⟩ := flat_get (s := 2) (fun _ => rfl) HCW.out (by omega) (by decide)
     have hm := HOK.out.ZB _ (List.getElem_mem Z0)
     replace ZK : ∀ j, j < 2 -> wr.cell? ⟨g, o + i * 2 + j, none⟩ = (WO ZB[i])[j]? := fun j hj => ZK _ _ HS.out i Z0 j hj
     obtain ⟨x, hxe⟩ : ∃ x, x = ZB[i] := ⟨_, rfl⟩
     rw [<- hxe] at ZK hm hsn
     have z0 : wr.cell? ⟨g, o + i * 2, none⟩ = some (.int .u32 x.src) := ZK 0 (by decide)
     have z1 : wr.cell? ⟨g, o + i * 2 + 1, none⟩ = some (.int .u8 x.seq) := ZK 1 (by decide)
     obtain ⟨lb, e1⟩ : ∃ z, z = l9 ++ (ZB.take i).flatMap XU := ⟨_, rfl⟩
     have HL := VL (show lb.length <= 1968 from by rw [e1, List.length_append]; have := HL9.out; have := Xl (f := XU) (s := 8) (n := 8) (fun x => by first | rfl | exact Za x) ZB i (by omega); omega)
     have hs := HS.out
     rw [<- e1] at hs
     have HSN := VL (And.intro e1 hsn)
     clear HS ZK hsn hxe e1
     have HS := VL hs
     clear hs
     have hs := (HS.out.alloc 68 #[.int .u32 x.src, .int .u8 x.seq]).Ya.ZQ
     obtain ⟨qw, hqw⟩ : ∃ q, q = wr.heap.size := ⟨_, rfl⟩
     rw [<- hqw] at hs
     have HQW := VL hqw
     clear hqw
     have HC := VL (Xk (I := J0) (M := bk qw 68 #[.int .u32 x.src, .int .u8 x.seq] :: bk q1 51 cs1 :: row 5 1 v lw.length (Z6 lw) :: bk p 60 #[v] :: obk D (.deferred (some [])) :: M) B 60 vb lb x.src hs (by have := HL.out; omega) hm.1)
     have HM := VL hm
     have hx2 := hm.2
     obtain ⟨hx3, hx4⟩ := hx2
     have hsq := hs
     clear hs HS hm
     go_upto_region 60 with fail
     rw [<- HQW.out]
     obtain ⟨hx5, hx6, hx7, hx8, hx9⟩ := (show ZO _ qw 68 #[.int .u32 x.src, .int .u8 x.seq] from hsq.at 2 rfl).two
     go_wp2_with fail
     go_at_call 48
     refine HC.out.mono ?_
     rintro e w2 ⟨_, _, _, rfl, _, hs, rfl, rfl, vb, rfl⟩
     clear hx5 hx6 hx7 hx8 hx9 hsq
     obtain ⟨hx5, hx6, hx7, hx8, hx9⟩ := (show ZO _ qw 68 #[.int .u32 x.src, .int .u8 x.seq] from hs.at 2 rfl).two
     obtain ⟨lc, hlc⟩ : ∃ z, z = lb ++ ZM x.src := ⟨_, rfl⟩
     rw [<- hlc] at hs
     have HC2 := VL (Xk (I := J0) B 60 vb lc (x.seq * 16777216) hs (by rw [hlc, List.length_append, Zy]; have := HL.out; omega) ⟨by omega, by omega⟩)
     have HLC := VL hlc
     clear hs hlc HC
     go_wp2_with fail
     go_at_call 48
     refine HC2.out.mono ?_
     rintro e w3 ⟨_, _, _, rfl, _, hs, rfl, rfl, vb, rfl⟩
     rw [HLC.out, List.append_assoc lb] at hs
     have HC := HC2
     clear HC2 HLC
     replace hs : St J0 (row 5 1 vb (lb ++ XU x).length (Z6 (lb ++ XU x)) :: bk B 60 #[vb] :: bk q1 51 cs1 :: row 5 1 v lw.length (Z6 lw) :: bk p 60 #[v] :: obk D (.deferred (some [])) :: M) w3 := hs.ZQ.Ya.drop
     clear hx5 hx6 hx7 hx8 hx9
     rw [HSN.out.1, List.append_assoc, <- HSN.out.2] at hs
     have HS := VL hs
     clear hs HC HSN
     go_wp2
     go_roundw
     case rel => exact ⟨i + 1, by omega, by go_num, vb, HS.out⟩
     case measure => simp [intOf]; omega
    have hin : i = ZB.length := by omega
    have hs := HS.out
    rw [hin, List.take_length] at hs
    subst hin
    clear HS
    obtain ⟨l10, e10⟩ : ∃ z, z = l9 ++ ZB.flatMap XU := ⟨_, rfl⟩
    rw [<- e10] at hs
    have HL10 := VL (show l10.length <= 1968 from by rw [e10, List.length_append]; have := HL9.out; have := YD (f := XU) (s := 8) (fun x => by first | rfl | exact Za x) ZB; omega)
    have HE10 := VL e10
    clear e10
    have HS := VL hs
    clear hs
    obtain ⟨Zc, hf1, hl1⟩ := ZO.all (HS.out.at 2 rfl)
    rw [HC1.out] at Zc
    obtain ⟨hcb, hfb, hlb⟩ := (show ZO _ B 60 #[_] from HS.out.at 1 rfl).one
    have HC := VL (evenC J0 _ _ B 60 vb l10 HS.out (by have := HL10.out; omega))
    go_wp2_with fail
    go_at_call 55
    refine HC.out.mono ?_
    clear Zc hf1 hl1 hcb hfb hlb
    clear HS HC vb
    rintro e w2 ⟨_, _, _, rfl, _, hs, rfl, rfl, vb, rfl⟩
    obtain ⟨lb, hlb⟩ : ∃ z, z = YH l10 := ⟨_, rfl⟩
    rw [<- hlb] at hs
    have HLB := VL (show lb.length <= 1971 from by rw [hlb]; have := HL10.out; have := Xr l10; omega)
    have HEB := VL hlb
    clear hlb
    have hs := hs.rot23
    have hlow := X7 HLOW.out.1 HLOW.out.2
    have hlo := HLOW.out
    simp only [XV, Z8, if_true, if_false, Int.reduceEq, Int.reduceNeg, Int.reduceLT] at hlow hlo
    obtain ⟨hlo1, hlo2⟩ := hlo
    have HC := VL (wU8 (I := J0) p 60 v lw (128 + 15) hs (by omega) (by omega))
    clear hs
    go_wp2_with fail
    go_at_call 49
    refine HC.out.mono ?_
    clear HC
    rintro e w2 ⟨_, _, _, rfl, _, hs, rfl, rfl, v, rfl⟩
    have HC := VL (wU8 (I := J0) p 60 v _ 205 hs (by rw [List.length_append]; show _ + 1 <= _; omega) (by decide))
    clear hs hlow hlo1 hlo2
    go_wp2_with fail
    go_at_call 49
    refine HC.out.mono ?_
    clear HC
    rintro e w2 ⟨_, _, _, rfl, _, hs, rfl, rfl, v, rfl⟩
    obtain ⟨lx, hlx⟩ : ∃ z, z = lw ++ [byteOf (128 + 15)] ++ [byteOf 205] := ⟨_, rfl⟩
    rw [<- hlx] at hs
    have hlxl : lx.length = lw.length + 2 := by rw [hlx]; simp
    have HLX := VL hlx
    clear hlx
    have h5 := HLB.out
    have HC := VL (Ws (I := J0) p 60 v lx ((lb.length / 4 : Nat) : Int) hs (by omega) ⟨by omega, by omega⟩)
    obtain ⟨A, c, rfl⟩ := ZW (show World.ownsRow _ 0 5 1 vb lb.length (Z6 lb) from hs.at 2 rfl)
    obtain ⟨hcb, hfb, hlb⟩ := (show ZO _ B 60 #[_] from hs.at 3 rfl).one
    clear hs
    go_wp2_with fail
    go_at_call 52
    refine HC.out.mono ?_
    clear HC hcb hfb hlb
    rintro e w2 ⟨_, _, _, rfl, _, hs, rfl, rfl, v, rfl⟩
    have hs := hs.rot32
    obtain ⟨J, Z5, hs, hA⟩ := hs.ZR
    have hs := hs.X4
    obtain ⟨hcb, hfb, hlb⟩ := (show ZO _ B 60 #[_] from hs.at 2 rfl).one
    obtain ⟨ly, hly⟩ : ∃ z, z = lx ++ Zi ((lb.length / 4 : Nat) : Int) := ⟨_, rfl⟩
    rw [<- hly] at hs
    have hlyl : ly.length = lx.length + 2 := by rw [hly, List.length_append, Zz]
    have HLY := VL hly
    have HC := VL (Wt (I := J) p 60 v ly A c lb hs (by omega) (fun w2 N h => Zq.src (e := 5) (show Zq J A lb from hA) h Try.underlying24 c))
    have HLE := VL Z5
    clear hs hly Z5 hA
    go_wp2_with fail
    go_at_call 50
    refine HC.out.mono ?_
    rintro e w2 ⟨_, _, _, rfl, _, hs, rfl, rfl, v, rfl⟩
    have HS := VL hs.drop23
    clear hs HC
    go_wp2
    refine ⟨by simp, .inl ⟨_, _, rfl, run_takeDeferred (show (World.heap _)[D]? = some (.deferred (some [])) from HS.out.at 2 rfl), ?_⟩⟩
    replace HS := VL (HS.out.Ya.putOb (.deferred none)).Ya.ZQ.Ya.drop
    refine ⟨_, results_none rfl _ _ _, ?_⟩
    refine YR.mk (HLE0.out.trans HLE.out) HS.out ⟨rfl, v, ?_⟩
    have hb : l10 = Zu (⟨6, ZA, ZC, ZN, ZP, ZI, ZJ, ZE, name, ZG, ZH, base, ref, count, ZF, ZB⟩ : Pk) := by
     rw [HE10.out, HE9.out, HE8.out, HE7.out, HE6.out, HE5.out, HE4.out, HE3.out, HE2.out, HE1.out, HE0.out]
     simp [Zu, Xf, Wl, WB]
    have hlb2 : lb = YH (Zu (⟨6, ZA, ZC, ZN, ZP, ZI, ZJ, ZE, name, ZG, ZH, base, ref, count, ZF, ZB⟩ : Pk)) := by rw [HEB.out, hb]
    have he : lp ++ ZV (⟨6, ZA, ZC, ZN, ZP, ZI, ZJ, ZE, name, ZG, ZH, base, ref, count, ZF, ZB⟩ : Pk) = ly ++ lb := by
     unfold ZV
     rw [<- hlb2, HLY.out, HLX.out, <- HLW.out]
     simp [XV, Z8]
    rw [he]
end Go.Proofs.Ytddopbbmgpnjjaa
