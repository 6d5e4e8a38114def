/- part. -/
import Derived.Test.YtddopbbmgpnjjaaZT05
import Derived.Test.YtddopbbmgpnjjaaZT06
namespace Go.Proofs.Ytddopbbmgpnjjaa
set_option linter.unusedSimpArgs false
open Go.RowKit
theorem if_len {α : Type} (c : Prop) [Decidable c] (l : List α) : (if c then l else []).length = (if c then l.length else 0) := by split <;> rfl
theorem if_cells {α : Type} {I : Zh} {A : Option Addr} {f : α -> List Value} {l : List α} (c : Prop) [Decidable c] (h : Cells I A (flat f l)) : Cells I (if c then A else none) (flat f (if c then l else [])) := by
 split
 ·exact h
 exact Cells.nil _ _
theorem if_le {α : Type} {l : List α} {n : Nat} (c : Prop) [Decidable c] (h : l.length <= n) : (if c then l else []).length <= n := by
 split
 ·exact h
 exact Nat.zero_le _
theorem sameOnly (I : Zh) (M : List Zt) (w : World) (kind : Int) (ZA : Int) (ZC : Int) (ZN : Int) (ZP : Int) (ZI : Int) (ZJ : Int) (base : Int) (ref : Int) (count : Int) (name : ByteArray) (ZE : List Rp) (ZG ZH ZF : List Int) (ZB : List Wn) (rA : Option Addr) (rz : Nat) (sA : Option Addr) (sz : Nat) (qA : Option Addr) (qz : Nat) (aA : Option Addr) (az : Nat) (wA : Option Addr) (wz : Nat) (hr : Cells I rA (flat Yt ZE)) (lr : ZE.length <= 140737488351232) (hs0 : Cells I sA (flat Xd ZG)) (ls : ZG.length <= 140737488351232) (hq : Cells I qA (flat Yp ZH)) (lq : ZH.length <= 140737488351232) (ha : Cells I aA (flat XC ZF)) (la : ZF.length <= 140737488351232) (hw : Cells I wA (flat WO ZB)) (lw : ZB.length <= 140737488351232) (ZX : St I M w) :
  Calls Try.prog 32 #[.agg #[.int .i64 kind, .int .u32 ZA, .int .u32 ZC, .int .u64 ZN, .int .u32 ZP, .int .u32 ZI, .int .u32 ZJ, .slice rA ZE.length rz, .string name, .slice sA ZG.length sz, .slice qA ZH.length qz, .int .u16 base, .int .u32 ref, .int .u8 count, .slice aA ZF.length az, .slice wA ZB.length wz], .agg (Xo kind ZA ZC ZN ZP ZI ZJ rA ZE.length rz name sA ZG.length sz qA ZH.length qz base ref count aA ZF.length az wA ZB.length wz)] w (YR I (fun u J M' => I = J /\ u = .bool (sameB (⟨kind, ZA, ZC, ZN, ZP, ZI, ZJ, ZE, name, ZG, ZH, base, ref, count, ZF, ZB⟩ : Pk) (YO (⟨kind, ZA, ZC, ZN, ZP, ZI, ZJ, ZE, name, ZG, ZH, base, ref, count, ZF, ZB⟩ : Pk))) /\ M' = M)) := by
 have h := same32 I M w kind ZA ZC ZN ZP ZI ZJ base ref count name ZE rA rz ZG sA sz ZH qA qz ZF aA az ZB wA wz (kind) (if kind = 4 then 0 else ZA) (if 5 <= kind then ZC else 0) (if kind = 1 then ZN else 0) (if kind = 1 then ZP else 0) (if kind = 1 then ZI else 0) (if kind = 1 then ZJ else 0) (if kind = 6 then base else 0) (if kind = 6 then ref else 0) (if kind = 6 then count else 0) (if kind = 3 then name else ⟨#[]⟩) (if kind = 1 \/ kind = 2 then ZE else []) (if kind = 1 \/ kind = 2 then rA else none) (if kind = 1 \/ kind = 2 then rz else 0) (if kind = 4 then ZG else []) (if kind = 4 then sA else none) (if kind = 4 then sz else 0) (if kind = 5 then ZH else []) (if kind = 5 then qA else none) (if kind = 5 then qz else 0) (if kind = 6 then ZF else []) (if kind = 6 then aA else none) (if kind = 6 then az else 0) (if kind = 8 then ZB else []) (if kind = 8 then wA else none) (if kind = 8 then wz else 0) hr lr (if_cells _ hr) (if_le _ lr) hs0 ls (if_cells _ hs0) (if_le _ ls) hq lq (if_cells _ hq) (if_le _ lq) ha la (if_cells _ ha) (if_le _ la) hw lw (if_cells _ hw) (if_le _ lw) ZX
 simp only [if_len] at h
 exact h
theorem bad_rep {p : Pk} {x : Rp} (hx : x ∈ p.ZE) (hb : bigT x = true) : ¬ Good p := by
 rintro ⟨hk, he⟩
 by_cases h : p.kind = 1 \/ p.kind = 2
 ·have h1 : p.ZE.any bigT = true := List.any_eq_true.2 ⟨x, hx, hb⟩
  unfold YF at hk
  rcases hk with hk | hk | hk | hk | hk | hk | hk <;> first | omega | (rw [h1] at hk; simp at hk)
 have h1 : p.ZE = (YO p).ZE := congrArg Pk.ZE he
 unfold YO at h1
 simp only [if_neg h] at h1
 rw [h1] at hx
 cases hx
theorem bad_seq {p : Pk} (hb : ¬ Ord p.ZH) : ¬ Good p := by
 rintro ⟨hk, he⟩
 by_cases h : p.kind = 5
 ·unfold YF at hk
  rcases hk with hk | hk | hk | hk | hk | hk | hk <;> first | omega | exact hb hk.2.1
 have h1 : p.ZH = (YO p).ZH := congrArg Pk.ZH he
 unfold YO at h1
 simp only [if_neg h] at h1
 rw [h1] at hb
 exact hb (fun i hi _ => by cases hi)
theorem bad_arr {p : Pk} {x : Int} (hx : x ∈ p.ZF) (hb : Xp x = true) : ¬ Good p := by
 rintro ⟨hk, he⟩
 by_cases h : p.kind = 6
 ·have h1 : p.ZF.any Xp = true := List.any_eq_true.2 ⟨x, hx, hb⟩
  unfold YF at hk
  rcases hk with hk | hk | hk | hk | hk | hk | hk <;> first | omega | (rw [h1] at hk; simp at hk)
 have h1 : p.ZF = (YO p).ZF := congrArg Pk.ZF he
 unfold YO at h1
 simp only [if_neg h] at h1
 rw [h1] at hx
 cases hx
theorem reps_nil {p : Pk} (he : p = YO p) (h : ¬ (p.kind = 1 \/ p.kind = 2)) : p.ZE = [] := by
 have h1 : p.ZE = (YO p).ZE := congrArg Pk.ZE he
 unfold YO at h1
 simp only [if_neg h] at h1
 exact h1
theorem take56 {a : Act} {o : Oper} {w : World} {q : Nat} {cs : Array Value} (hb : ZO w q 56 cs) (hsz : cs.size = 16) (ho : o.op = .load 56 (.tmp 1)) (hx : a.eval (.tmp 1) = .pointer (some ⟨q, 0, none⟩)) : (execOp a.eval o).run Try.prog w = .ok (.value (.agg cs)) w := by
 obtain ⟨fs, hd⟩ := st56D
 exact row_take 56 _ ho q hx 56 cs (0, 0) _ hb hd rfl (by rw [hsz]; exact Zn)
set_option maxRecDepth 100000 in
set_option maxHeartbeats 20000000 in
theorem goodR (I : Zh) (M : List Zt) (w : World) (kind : Int) (ZA : Int) (ZC : Int) (ZN : Int) (ZP : Int) (ZI : Int) (ZJ : Int) (base : Int) (ref : Int) (count : Int) (name : ByteArray) (ZE : List Rp) (ZG ZH ZF : List Int) (ZB : List Wn) (rA : Option Addr) (rz : Nat) (sA : Option Addr) (sz : Nat) (qA : Option Addr) (qz : Nat) (aA : Option Addr) (az : Nat) (wA : Option Addr) (wz : Nat) (hr : Cells I rA (flat Yt ZE)) (lr : ZE.length <= 140737488351232) (hrT : ∀ x ∈ ZE, 0 <= x.total /\ x.total <= 4294967295) (hq : Cells I qA (flat Yp ZH)) (lq : ZH.length <= 140737488351232) (ha : Cells I aA (flat XC ZF)) (la : ZF.length <= 140737488351232) (ln : name.size <= maxLen) (hs0 : Cells I sA (flat Xd ZG)) (ls : ZG.length <= 140737488351232) (hw : Cells I wA (flat WO ZB)) (lw : ZB.length <= 140737488351232) (hrf : 0 <= ref /\ ref <= 4294967295) (ZX : St I M w) :
  Calls Try.prog 17 #[.agg #[.int .i64 kind, .int .u32 ZA, .int .u32 ZC, .int .u64 ZN, .int .u32 ZP, .int .u32 ZI, .int .u32 ZJ, .slice rA ZE.length rz, .string name, .slice sA ZG.length sz, .slice qA ZH.length qz, .int .u16 base, .int .u32 ref, .int .u8 count, .slice aA ZF.length az, .slice wA ZB.length wz]] w (YR I (fun u J M' => I = J /\ u = .bool (goodB (⟨kind, ZA, ZC, ZN, ZP, ZI, ZJ, ZE, name, ZG, ZH, base, ref, count, ZF, ZB⟩ : Pk)) /\ M' = M)) := by
 have ZY := ZX.alloc 56 #[.int .i64 kind, .int .u32 ZA, .int .u32 ZC, .int .u64 ZN, .int .u32 ZP, .int .u32 ZI, .int .u32 ZJ, .slice rA ZE.length rz, .string name, .slice sA ZG.length sz, .slice qA ZH.length qz, .int .u16 base, .int .u32 ref, .int .u8 count, .slice aA ZF.length az, .slice wA ZB.length wz]
 have HR := VL (And.intro hr hrT)
 have HQ := VL hq
 have HA := VL ha
 obtain ⟨fs, hd⟩ := st56D
 obtain ⟨S, hS⟩ : ∃ S, S = goodB (⟨kind, ZA, ZC, ZN, ZP, ZI, ZJ, ZE, name, ZG, ZH, base, ref, count, ZF, ZB⟩ : Pk) := ⟨_, rfl⟩
 have YV := VL hS
 rw [<- hS]
 unfold maxLen at ln
 have HC33 := VL (fun (M1 : List Zt) (w1 : World) (h1 : St I M1 w1) => only33 I M1 w1 kind ZA ZC ZN ZP ZI ZJ rA ZE.length rz name sA ZG.length sz qA ZH.length qz base ref count aA ZF.length az wA ZB.length wz h1)
 obtain ⟨B, hB⟩ : ∃ B, B = sameB (⟨kind, ZA, ZC, ZN, ZP, ZI, ZJ, ZE, name, ZG, ZH, base, ref, count, ZF, ZB⟩ : Pk) (YO (⟨kind, ZA, ZC, ZN, ZP, ZI, ZJ, ZE, name, ZG, ZH, base, ref, count, ZF, ZB⟩ : Pk)) := ⟨_, rfl⟩
 have HBB := VL hB
 have HC32 : Hid (∀ (M1 : List Zt) (w1 : World), St I M1 w1 -> Calls Try.prog 32 #[.agg #[.int .i64 kind, .int .u32 ZA, .int .u32 ZC, .int .u64 ZN, .int .u32 ZP, .int .u32 ZI, .int .u32 ZJ, .slice rA ZE.length rz, .string name, .slice sA ZG.length sz, .slice qA ZH.length qz, .int .u16 base, .int .u32 ref, .int .u8 count, .slice aA ZF.length az, .slice wA ZB.length wz], .agg (Xo kind ZA ZC ZN ZP ZI ZJ rA ZE.length rz name sA ZG.length sz qA ZH.length qz base ref count aA ZF.length az wA ZB.length wz)] w1 (YR I (fun u J M' => I = J /\ u = .bool B /\ M' = M1))) := VL (fun M1 w1 h1 => by rw [hB]; exact sameOnly I M1 w1 kind ZA ZC ZN ZP ZI ZJ base ref count name ZE ZG ZH ZF ZB rA rz sA sz qA qz aA az wA wz hr lr hs0 ls hq lq ha la hw lw h1)
 clear hB
 clear ZX hS hr hrT hq ha hs0 hw
 go_enter Try.func17, Try.ntmps17
 go_upto_region 1 with fail
 obtain ⟨q1, hq1⟩ : ∃ q, q = w.heap.size := ⟨_, rfl⟩
 rw [<- hq1] at ZY ⊢
 generalize World.alloc w _ = W at ZY ⊢
 clear hq1
 have HS1 := VL ZY
 clear ZY
 obtain ⟨Zc, hf1, hl1⟩ := ZO.all (HS1.out.at 0 rfl)
 go_upto_if 20 with fail
 by_cases hin : 1 <= kind /\ kind <= 8
 ·obtain ⟨hin1, hin8⟩ := hin
  have e1 : decide (kind < 1) = false := decide_eq_false (by omega)
  have e2 : decide (8 < kind) = false := decide_eq_false (by omega)
  refine wp_region_held_drew (S := (fun w' => ZO w' q1 56 #[.int .i64 kind, .int .u32 ZA, .int .u32 ZC, .int .u64 ZN, .int .u32 ZP, .int .u32 ZI, .int .u32 ZJ, .slice rA ZE.length rz, .string name, .slice sA ZG.length sz, .slice qA ZH.length qz, .int .u16 base, .int .u32 ref, .int .u8 count, .slice aA ZF.length az, .slice wA ZB.length wz] /\ w'.cell? ⟨q1, 0, none⟩ = some (.int .i64 kind))) (by kernel_rfl) (by (try dsimp only); first | exact ⟨HS1.out.drew.at 0 rfl, ZO.cell (HS1.out.drew.at 0 rfl) 0⟩ | exact ⟨YN.at 0 rfl, ZO.cell (YN.at 0 rfl) 0⟩ | exact ⟨Zf.at 0 rfl, ZO.cell (Zf.at 0 rfl) 0⟩) (fun ZL => ?_)
  refine wh 0 rfl (by kernel_rfl) (fun _ _ _ h => h) rfl ‹_› (by intro w h;go_simp;try with_reducible rfl) ?_
  try go_frame
  refine wh 1 rfl (by kernel_rfl) (fun _ _ _ h => h) rfl ‹_› (by intro w h;go_simp;try with_reducible rfl) ?_
  try go_frame
  refine wh 2 rfl (by kernel_rfl) (fun _ _ _ h => h) rfl ‹_› (by intro w h;go_simp;try with_reducible rfl) ?_
  try go_frame
  refine wh 3 rfl (by kernel_rfl) (fun _ _ _ h => h) rfl ‹_› (by intro w h;go_simp;try with_reducible rfl) ?_
  try go_frame
  refine wh 4 rfl (by kernel_rfl) (fun _ _ _ h => h) rfl ‹_› (by intro w h;go_simp;try with_reducible rfl) ?_
  try go_frame
  refine wh 5 rfl (by kernel_rfl) (fun _ _ _ h => h) rfl ‹_› (by intro w h;go_simp;try with_reducible rfl) ?_
  try go_frame
  refine wh 6 rfl (by kernel_rfl) (fun _ _ _ h => h) rfl ‹_› (by intro w h;go_simp;try with_reducible rfl) ?_
  try go_frame
  refine wh 7 rfl (by kernel_rfl) (fun _ _ _ h => h) rfl ‹_› (by intro w h;go_simp;try with_reducible rfl) ?_
  try go_frame
  refine wh 8 rfl (by kernel_rfl) (fun _ _ _ h => h) rfl ‹_› (by intro w h;go_simp;try with_reducible rfl) ?_
  try go_frame
  refine wpAnyH_take (i := 9) (oi := _) (v := ?_) rfl (by kernel_rfl) (by kernel_rfl) (by kernel_rfl) (fun _ _ _ h => h) (Or.inl ⟨by rfl, ?_⟩) (by assumption) ?_
  rotate_left
  ·(intro w hSw; (try dsimp only at hSw); refine take56 hSw.1 ?_ ?_ ?_ <;> rfl)
  try go_frame
  refine wpAnyH_take (i := 10) (oi := _) (v := ?_) rfl (by kernel_rfl) (by kernel_rfl) (by kernel_rfl) (fun _ _ _ h => h) (Or.inl ⟨by rfl, ?_⟩) (by assumption) ?_
  rotate_left
  ·(intro w hSw; (try dsimp only at hSw); refine take56 hSw.1 ?_ ?_ ?_ <;> rfl)
  try go_frame
  refine wpAnyH_ready (rs := [11]) (by kernel_rfl) (by simp) ?_
  refine AllReadyH.cons (o := _) rfl (fun K hK => ?_) AllReadyH.nil
  go_simp
  refine (HC33.out _ _ HS1.out.drew).mono ?_; rintro e w2 ⟨_, _, _, rfl, _, YN, rfl, rfl, rfl⟩
  try clear ZL
  refine hK.out _ _ (by (try dsimp only); first | exact ⟨HS1.out.drew.at 0 rfl, ZO.cell (HS1.out.drew.at 0 rfl) 0⟩ | exact ⟨YN.at 0 rfl, ZO.cell (YN.at 0 rfl) 0⟩ | exact ⟨Zf.at 0 rfl, ZO.cell (Zf.at 0 rfl) 0⟩) (fun ZL => ?_)
  clear hK K
  try go_frame
  refine wpAnyH_ready (rs := [12]) (by kernel_rfl) (by simp) ?_
  refine AllReadyH.cons (o := _) rfl (fun K hK => ?_) AllReadyH.nil
  go_simp
  refine (HC32.out _ _ YN).mono ?_; rintro e w3 ⟨_, _, _, rfl, _, Zf, rfl, rfl, rfl⟩
  try clear ZL
  refine hK.out _ _ (by (try dsimp only); first | exact ⟨HS1.out.drew.at 0 rfl, ZO.cell (HS1.out.drew.at 0 rfl) 0⟩ | exact ⟨YN.at 0 rfl, ZO.cell (YN.at 0 rfl) 0⟩ | exact ⟨Zf.at 0 rfl, ZO.cell (Zf.at 0 rfl) 0⟩) (fun ZL => ?_)
  clear hK K
  try go_frame
  refine wh 13 rfl (by kernel_rfl) (fun _ _ _ h => h) rfl ‹_› (by intro w h;go_simp;try with_reducible rfl) ?_
  try go_frame
  refine wh 14 rfl (by kernel_rfl) (fun _ _ _ h => h) rfl ‹_› (by intro w h;go_simp;try with_reducible rfl) ?_
  try go_frame
  refine wpAnyH_done (by kernel_rfl) ?_ _
  have HS4 := VL Zf
  clear Zc hf1 hl1 ZL YN Zf HS1 HC33 HC32
  have HS1 := HS4
  clear HS4
  obtain ⟨Zc, hf1, hl1⟩ := ZO.all (HS1.out.at 0 rfl)
  cases B
  ·have HE := VL (YV.out.trans (Xz (fun g => by have h := HBB.out; rw [Wx g.2] at h; cases h)))
   go_wp2
   go_returns
   exact YR.mk (.refl I) HS1.out.drop ⟨rfl, congrArg Value.bool HE.out.symm, rfl⟩
  have HEQ := VL (show (⟨kind, ZA, ZC, ZN, ZP, ZI, ZJ, ZE, name, ZG, ZH, base, ref, count, ZF, ZB⟩ : Pk) = YO (⟨kind, ZA, ZC, ZN, ZP, ZI, ZJ, ZE, name, ZG, ZH, base, ref, count, ZF, ZB⟩ : Pk) from Classical.byContradiction (fun h => by have e := HBB.out; rw [Xq h] at e; cases e))
  go_upto_block 0 with fail
  clear Zc hf1 hl1
  go_cut [] (fun wx => St I (bk q1 56 #[.int .i64 kind, .int .u32 ZA, .int .u32 ZC, .int .u64 ZN, .int .u32 ZP, .int .u32 ZI, .int .u32 ZJ, .slice rA ZE.length rz, .string name, .slice sA ZG.length sz, .slice qA ZH.length qz, .int .u16 base, .int .u32 ref, .int .u8 count, .slice aA ZF.length az, .slice wA ZB.length wz] :: M) wx /\ ZE.any bigT = false)
  case first =>
   obtain ⟨Zc, hf1, hl1⟩ := ZO.all (HS1.out.at 0 rfl)
   go_wp2_with fail
   go_loopw [24] (fun iv wr => ∃ k : Nat, k <= ZE.length /\ iv = .int .i64 k /\ Hid ((∀ i (h : i < ZE.length), i < k -> bigT ZE[i] = false) /\ wr = w3)) (fun iv _ => ZE.length - (intOf iv).toNat)
   case atStart => exact ⟨0, Nat.zero_le _, rfl, fun j _ h => by omega, rfl⟩
   case round =>
    obtain ⟨k, hk, rfl, hh⟩ := hrel
    obtain ⟨hno, hw⟩ := hh.out
    subst hw
    have HNO := VL hno
    clear hh hno
    by_cases Z0 : k < ZE.length
    ·obtain ⟨g, o, rfl, ZK⟩ := flat_get (s := 7) (fun _ => rfl) HR.out.1 (by omega) (by decide)
     replace ZK : wr.cell? ⟨g, o + k * 7 + 2, none⟩ = some (.int .u32 ZE[k].total) := ZK _ _ HS1.out k Z0 2 (by decide)
     obtain ⟨x, hx⟩ : ∃ x, x = ZE[k] := ⟨_, rfl⟩
     have hmem := List.getElem_mem Z0
     rw [<- hx] at ZK hmem
     have hT := HR.out.2 x hmem
     have HX := VL hx
     obtain ⟨hT0, hT1⟩ := hT
     clear hx
     by_cases h24 : x.total < 16777216
     ·have hd1 : decide (16777216 <= x.total) = false := decide_eq_false (by omega)
      have HNO2 := VL (show ∀ i (h : i < ZE.length), i < k + 1 -> bigT ZE[i] = false from fun i h h1 => by
       by_cases e : i = k
       ·subst e; rw [<- HX.out]; exact hd1
       exact HNO.out i h (by omega))
      go_wp2
      go_roundw
      case rel => exact ⟨k + 1, by omega, by go_num, HNO2.out, trivial⟩
      case measure => simp [intOf]; omega
     have hd1 : decide (16777216 <= x.total) = true := decide_eq_true (by omega)
     have HE := VL (YV.out.trans (Xz (bad_rep (p := (⟨kind, ZA, ZC, ZN, ZP, ZI, ZJ, ZE, name, ZG, ZH, base, ref, count, ZF, ZB⟩ : Pk)) hmem hd1)))
     go_wp2
     go_returns
     exact YR.mk (.refl I) HS1.out.drop ⟨rfl, congrArg Value.bool HE.out.symm, rfl⟩
    have HNO2 := VL (show ZE.any bigT = false from by
     rw [List.any_eq_false]
     intro x hx
     obtain ⟨i, hi, rfl⟩ := List.getElem_of_mem hx
     rw [HNO.out i hi (by omega)]; simp)
    go_wp2
    go_meet
    exact ⟨HS1.out, HNO2.out⟩
  case rest =>
   obtain ⟨hs, ha1⟩ := hcut
   have HA1 := VL ha1
   clear HS1 ha1
   have HS1 := VL hs
   clear hs
   obtain ⟨Zc, hf1, hl1⟩ := ZO.all (HS1.out.at 0 rfl)
   go_upto_block 2 with fail
   clear Zc hf1 hl1
   go_cut [] (fun wx => St I (bk q1 56 #[.int .i64 kind, .int .u32 ZA, .int .u32 ZC, .int .u64 ZN, .int .u32 ZP, .int .u32 ZI, .int .u32 ZJ, .slice rA ZE.length rz, .string name, .slice sA ZG.length sz, .slice qA ZH.length qz, .int .u16 base, .int .u32 ref, .int .u8 count, .slice aA ZF.length az, .slice wA ZB.length wz] :: M) wx /\ Ord ZH)
   case first =>
    go_wp2_with fail
    go_loopw [38] (fun iv wr => ∃ k : Nat, k <= ZH.length /\ iv = .int .i64 k /\ Hid ((∀ i (h : i < ZH.length) (_ : 0 < i), i < k -> Yb (ZH[i - 1]'(by omega)) ZH[i] = true /\ Yb (ZH[0]'(by omega)) ZH[i] = true) /\ St I (bk q1 56 #[.int .i64 kind, .int .u32 ZA, .int .u32 ZC, .int .u64 ZN, .int .u32 ZP, .int .u32 ZI, .int .u32 ZJ, .slice rA ZE.length rz, .string name, .slice sA ZG.length sz, .slice qA ZH.length qz, .int .u16 base, .int .u32 ref, .int .u8 count, .slice aA ZF.length az, .slice wA ZB.length wz] :: M) wr)) (fun iv _ => ZH.length - (intOf iv).toNat)
    case atStart => exact ⟨0, Nat.zero_le _, rfl, fun j _ _ h => by omega, HS1.out⟩
    case round =>
     obtain ⟨k, hk, rfl, hh⟩ := hrel
     obtain ⟨hno, hs⟩ := hh.out
     have HNO := VL hno
     have HS2 := VL hs
     clear hh hno HS1 hs
     obtain ⟨Zc, hf1, hl1⟩ := ZO.all (HS2.out.at 0 rfl)
     by_cases Z0 : k < ZH.length
     ·obtain ⟨g, o, rfl, ZK⟩ := flat_get (s := 1) (fun _ => rfl) HQ.out (by omega) (by decide)
      replace ZK : ∀ j (h : j < ZH.length), wr.cell? ⟨g, o + j, none⟩ = some (.int .u16 ZH[j]) := fun j h => by
       have := ZK _ _ HS2.out j h 0 (by decide)
       simpa using this
      rcases Nat.eq_zero_or_pos k with rfl | hpos
      ·have HNO2 := VL (show ∀ i (h : i < ZH.length) (_ : 0 < i), i < 0 + 1 -> Yb (ZH[i - 1]'(by omega)) ZH[i] = true /\ Yb (ZH[0]'(by omega)) ZH[i] = true from fun i h h0 h1 => by omega)
       clear ZK
       go_wp2
       go_quiet (fail)
       have HS3 := VL (HS2.out.drewN nq)
       clear HS2 Zc hf1 hl1
       go_wp2
       go_roundw
       case rel => exact ⟨1, by omega, rfl, HNO2.out, HS3.out⟩
       case measure => simp [intOf]; omega
      obtain ⟨j, rfl⟩ : ∃ j, k = j + 1 := ⟨k - 1, by omega⟩
      have zk := ZK (j + 1) Z0
      have zj := ZK j (by omega)
      have z0 : wr.cell? ⟨g, o, none⟩ = some (.int .u16 (ZH[0]'(by omega))) := ZK 0 (by omega)
      clear ZK
      obtain ⟨xk, hxk⟩ : ∃ x, x = ZH[j + 1] := ⟨_, rfl⟩
      obtain ⟨xj, hxj⟩ : ∃ x, x = ZH[j]'(by omega) := ⟨_, rfl⟩
      obtain ⟨x0, hx0⟩ : ∃ x, x = ZH[0]'(by omega) := ⟨_, rfl⟩
      rw [<- hxk] at zk
      rw [<- hxj] at zj
      rw [<- hx0] at z0
      have HXK := VL hxk
      have HXJ := VL hxj
      have HX0 := VL hx0
      clear hxk hxj hx0
      have hj1 : (j : Int) + 1 < ZH.length := by omega
      have hj2 : (0 : Int) < (j : Int) + 1 := by omega
      have hj3 : (j : Int) < ZH.length := by omega
      have hj4 : (j : Int) + 1 <= 140737488351232 := by omega
      have hw1 : IntKind.i64.wrap ((j : Int) + 1 - 1) = (j : Int) := by rw [show (j : Int) + 1 - 1 = (j : Int) by omega]; exact IntWalk.i64_in _ (by omega)
      have hw2 : IntKind.i64.wrap (j : Int) = (j : Int) := IntWalk.i64_in _ (by omega)
      have HB1 := VL (show ∀ n, Calls Try.prog 34 #[.int .u16 xj, .int .u16 xk] (wr.drewN n) fun e w' => e = .returned (.bool (Yb xj xk)) /\ w' = wr.drewN n from fun n => (beforeR xj xk _).mono fun _ _ h => ⟨h.1, h.2.symm⟩)
      have HB2 := VL (show ∀ n, Calls Try.prog 34 #[.int .u16 x0, .int .u16 xk] (wr.drewN n) fun e w' => e = .returned (.bool (Yb x0 xk)) /\ w' = wr.drewN n from fun n => (beforeR x0 xk _).mono fun _ _ h => ⟨h.1, h.2.symm⟩)
      cases hb1 : Yb xj xk
      ·have HE := VL (YV.out.trans (Xz (bad_seq (p := (⟨kind, ZA, ZC, ZN, ZP, ZI, ZJ, ZE, name, ZG, ZH, base, ref, count, ZF, ZB⟩ : Pk)) (fun h => by
        have h2 := (h (j + 1) Z0 (by omega)).1
        have e : Yb xj xk = true := by rw [HXK.out, HXJ.out]; exact h2
        rw [hb1] at e; cases e))))
       rw [hb1] at HB1
       go_wp2
       go_quiet ((go_at_call 34; with_reducible exact Calls.quiet_of_same (HB1.out _)))
       have HS3 := VL (HS2.out.drewN nq)
       go_wp2
       go_returns
       exact YR.mk (.refl I) HS3.out.drop ⟨rfl, congrArg Value.bool HE.out.symm, rfl⟩
      cases hb2 : Yb x0 xk
      ·have HE := VL (YV.out.trans (Xz (bad_seq (p := (⟨kind, ZA, ZC, ZN, ZP, ZI, ZJ, ZE, name, ZG, ZH, base, ref, count, ZF, ZB⟩ : Pk)) (fun h => by
        have h2 := (h (j + 1) Z0 (by omega)).2
        have e : Yb x0 xk = true := by rw [HXK.out, HX0.out]; exact h2
        rw [hb2] at e; cases e))))
       rw [hb1] at HB1
       rw [hb2] at HB2
       go_wp2
       go_quiet ((first | (go_at_call 34; with_reducible exact Calls.quiet_of_same (HB1.out _)) | (go_at_call 34; with_reducible exact Calls.quiet_of_same (HB2.out _))))
       have HS3 := VL (HS2.out.drewN nq)
       go_wp2
       go_returns
       exact YR.mk (.refl I) HS3.out.drop ⟨rfl, congrArg Value.bool HE.out.symm, rfl⟩
      have HNO2 := VL (show ∀ i (h : i < ZH.length) (_ : 0 < i), i < j + 1 + 1 -> Yb (ZH[i - 1]'(by omega)) ZH[i] = true /\ Yb (ZH[0]'(by omega)) ZH[i] = true from fun i h h0 h1 => by
       by_cases e : i = j + 1
       ·subst e; exact ⟨by have := hb1; rw [HXK.out, HXJ.out] at this; exact this, by have := hb2; rw [HXK.out, HX0.out] at this; exact this⟩
       exact HNO.out i h h0 (by omega))
      rw [hb1] at HB1
      rw [hb2] at HB2
      go_wp2
      go_quiet ((first | (go_at_call 34; with_reducible exact Calls.quiet_of_same (HB1.out _)) | (go_at_call 34; with_reducible exact Calls.quiet_of_same (HB2.out _))))
      have HS3 := VL (HS2.out.drewN nq)
      clear HS2 Zc hf1 hl1 zk zj z0
      go_wp2
      go_roundw
      case rel => exact ⟨j + 1 + 1, by omega, by go_num, HNO2.out, HS3.out⟩
      case measure => simp [intOf]; omega
     have HNO2 := VL (show Ord ZH from fun i h h0 => HNO.out i h h0 (by omega))
     go_wp2
     go_meet
     exact ⟨HS2.out, HNO2.out⟩
   case rest =>
    obtain ⟨hs, ha1⟩ := hcut
    have HA2 := VL ha1
    clear HS1 ha1
    have HS1 := VL hs
    clear hs
    obtain ⟨Zc, hf1, hl1⟩ := ZO.all (HS1.out.at 0 rfl)
    go_upto_block 4 with fail
    clear Zc hf1 hl1
    go_cut [] (fun wx => St I (bk q1 56 #[.int .i64 kind, .int .u32 ZA, .int .u32 ZC, .int .u64 ZN, .int .u32 ZP, .int .u32 ZI, .int .u32 ZJ, .slice rA ZE.length rz, .string name, .slice sA ZG.length sz, .slice qA ZH.length qz, .int .u16 base, .int .u32 ref, .int .u8 count, .slice aA ZF.length az, .slice wA ZB.length wz] :: M) wx /\ ZF.any Xp = false)
    case first =>
     obtain ⟨Zc, hf1, hl1⟩ := ZO.all (HS1.out.at 0 rfl)
     obtain ⟨wo, hwo⟩ : ∃ wo : World, wo = wc := ⟨_, rfl⟩
     rw [<- hwo] at Zc hf1 hl1 HS1 ⊢
     clear hwo
     go_wp2_with fail
     go_loopw [75] (fun iv wr => ∃ k : Nat, k <= ZF.length /\ iv = .int .i64 k /\ Hid ((∀ i (h : i < ZF.length), i < k -> Xp ZF[i] = false) /\ wr = wo)) (fun iv _ => ZF.length - (intOf iv).toNat)
     case atStart => exact ⟨0, Nat.zero_le _, rfl, fun j _ h => by omega, rfl⟩
     case round =>
      obtain ⟨k, hk, rfl, hh⟩ := hrel
      obtain ⟨hno, hw⟩ := hh.out
      subst hw
      have HNO := VL hno
      clear hh hno
      by_cases Z0 : k < ZF.length
      ·obtain ⟨g, o, rfl, ZK⟩ := flat_get (s := 1) (fun _ => rfl) HA.out (by omega) (by decide)
       replace ZK : wr.cell? ⟨g, o + k, none⟩ = some (.int .i64 ZF[k]) := by
        have := ZK _ _ HS1.out k Z0 0 (by decide)
        simpa using this
       obtain ⟨x, hx⟩ : ∃ x, x = ZF[k] := ⟨_, rfl⟩
       have hmem := List.getElem_mem Z0
       rw [<- hx] at ZK hmem
       have HX := VL hx
       clear hx
       cases hb : Xp x
       ·have HNO2 := VL (show ∀ i (h : i < ZF.length), i < k + 1 -> Xp ZF[i] = false from fun i h h1 => by
         by_cases e : i = k
         ·subst e; rw [<- HX.out]; exact hb
         exact HNO.out i h (by omega))
        by_cases h1 : x = 65536
        ·have g1 : (x != 65536) = false := by rw [h1]; rfl
         clear hb h1
         go_wp2
         go_roundw
         case rel => exact ⟨k + 1, by omega, by go_num, HNO2.out, trivial⟩
         case measure => simp [intOf]; omega
        have g1 : (x != 65536) = true := by simpa using h1
        have hw := hb
        unfold Xp at hw
        rw [g1, Bool.true_and, Bool.not_eq_false'] at hw
        have hw := Xi hw
        have g2 : decide (x < -32768) = false := decide_eq_false (by omega)
        have g3 : decide (32767 < x) = false := decide_eq_false (by omega)
        clear hb h1 hw
        go_wp2
        go_roundw
        case rel => exact ⟨k + 1, by omega, by go_num, HNO2.out, trivial⟩
        case measure => simp [intOf]; omega
       have HE := VL (YV.out.trans (Xz (bad_arr (p := (⟨kind, ZA, ZC, ZN, ZP, ZI, ZJ, ZE, name, ZG, ZH, base, ref, count, ZF, ZB⟩ : Pk)) hmem hb)))
       have hw := hb
       unfold Xp at hw
       rw [Bool.and_eq_true, Bool.not_eq_true'] at hw
       have g1 := hw.1
       have hw := WH hw.2
       by_cases h2 : x < -32768
       ·have g2 : decide (x < -32768) = true := decide_eq_true h2
        clear hb hw
        go_wp2
        go_returns
        exact YR.mk (.refl I) HS1.out.drop ⟨rfl, congrArg Value.bool HE.out.symm, rfl⟩
       have g2 : decide (x < -32768) = false := decide_eq_false h2
       have g3 : decide (32767 < x) = true := decide_eq_true (by omega)
       clear hb hw h2
       go_wp2
       go_returns
       exact YR.mk (.refl I) HS1.out.drop ⟨rfl, congrArg Value.bool HE.out.symm, rfl⟩
      have HNO2 := VL (show ZF.any Xp = false from by
       rw [List.any_eq_false]
       intro x hx
       obtain ⟨i, hi, rfl⟩ := List.getElem_of_mem hx
       rw [HNO.out i hi (by omega)]; simp)
      go_wp2
      go_meet
      exact ⟨HS1.out, HNO2.out⟩
    case rest =>
     obtain ⟨hs, ha1⟩ := hcut
     have HA3 := VL ha1
     clear HS1 ha1
     have HS1 := VL hs
     clear hs
     obtain ⟨Zc, hf1, hl1⟩ := ZO.all (HS1.out.at 0 rfl)
     have YZ := VL (show kind = 1 \/ kind = 2 \/ kind = 3 \/ kind = 4 \/ kind = 5 \/ kind = 6 \/ kind = 7 \/ kind = 8 by omega)
     clear hin1 hin8 e1 e2
     rcases YZ.out with rfl | rfl | rfl | rfl | rfl | rfl | rfl | rfl
     ·skip
      by_cases h0 : ZE.length <= 31
      ·have g0 : decide ((ZE.length : Int) <= 31) = true := decide_eq_true (by omega)
       have H0 := VL h0
       clear h0
       have HE := VL (YV.out.trans (XX ⟨.inl ⟨.inl rfl, HA1.out, H0.out⟩, HEQ.out⟩))
       go_wp2
       go_returns
       exact YR.mk (.refl I) HS1.out.drop ⟨rfl, congrArg Value.bool HE.out.symm, rfl⟩
      have g0 : decide ((ZE.length : Int) <= 31) = false := decide_eq_false (by omega)
      have H0 := VL h0
      clear h0
      have HE := VL (YV.out.trans (YJ (fun h => by unfold YF at h; simp only [] at h; have := H0.out; rcases h with h | h | h | h | h | h | h <;> omega)))
      go_wp2
      go_returns
      exact YR.mk (.refl I) HS1.out.drop ⟨rfl, congrArg Value.bool HE.out.symm, rfl⟩
     ·skip
      by_cases h0 : ZE.length <= 31
      ·have g0 : decide ((ZE.length : Int) <= 31) = true := decide_eq_true (by omega)
       have H0 := VL h0
       clear h0
       have HE := VL (YV.out.trans (XX ⟨.inl ⟨.inr rfl, HA1.out, H0.out⟩, HEQ.out⟩))
       go_wp2
       go_returns
       exact YR.mk (.refl I) HS1.out.drop ⟨rfl, congrArg Value.bool HE.out.symm, rfl⟩
      have g0 : decide ((ZE.length : Int) <= 31) = false := decide_eq_false (by omega)
      have H0 := VL h0
      clear h0
      have HE := VL (YV.out.trans (YJ (fun h => by unfold YF at h; simp only [] at h; have := H0.out; rcases h with h | h | h | h | h | h | h <;> omega)))
      go_wp2
      go_returns
      exact YR.mk (.refl I) HS1.out.drop ⟨rfl, congrArg Value.bool HE.out.symm, rfl⟩
     ·skip
      by_cases h0 : 1 <= name.size
      ·have g0 : decide (1 <= (name.size : Int)) = true := decide_eq_true (by omega)
       have H0 := VL h0
       clear h0
       by_cases h1 : name.size <= 64
       ·have g1 : decide ((name.size : Int) <= 64) = true := decide_eq_true (by omega)
        have H1 := VL h1
        clear h1
        have HE := VL (YV.out.trans (XX ⟨.inr (.inl ⟨rfl, H0.out, H1.out⟩), HEQ.out⟩))
        go_wp2
        go_returns
        exact YR.mk (.refl I) HS1.out.drop ⟨rfl, congrArg Value.bool HE.out.symm, rfl⟩
       have g1 : decide ((name.size : Int) <= 64) = false := decide_eq_false (by omega)
       have H1 := VL h1
       clear h1
       have HE := VL (YV.out.trans (YJ (fun h => by unfold YF at h; simp only [] at h; have := H1.out; rcases h with h | h | h | h | h | h | h <;> omega)))
       go_wp2
       go_returns
       exact YR.mk (.refl I) HS1.out.drop ⟨rfl, congrArg Value.bool HE.out.symm, rfl⟩
      have g0 : decide (1 <= (name.size : Int)) = false := decide_eq_false (by omega)
      have H0 := VL h0
      clear h0
      have HE := VL (YV.out.trans (YJ (fun h => by unfold YF at h; simp only [] at h; have := H0.out; rcases h with h | h | h | h | h | h | h <;> omega)))
      go_wp2
      go_returns
      exact YR.mk (.refl I) HS1.out.drop ⟨rfl, congrArg Value.bool HE.out.symm, rfl⟩
     ·skip
      by_cases h0 : 1 <= ZG.length
      ·have g0 : decide (1 <= (ZG.length : Int)) = true := decide_eq_true (by omega)
       have H0 := VL h0
       clear h0
       by_cases h1 : ZG.length <= 31
       ·have g1 : decide ((ZG.length : Int) <= 31) = true := decide_eq_true (by omega)
        have H1 := VL h1
        clear h1
        have HE := VL (YV.out.trans (XX ⟨.inr (.inr (.inl ⟨rfl, H0.out, H1.out⟩)), HEQ.out⟩))
        go_wp2
        go_returns
        exact YR.mk (.refl I) HS1.out.drop ⟨rfl, congrArg Value.bool HE.out.symm, rfl⟩
       have g1 : decide ((ZG.length : Int) <= 31) = false := decide_eq_false (by omega)
       have H1 := VL h1
       clear h1
       have HE := VL (YV.out.trans (YJ (fun h => by unfold YF at h; simp only [] at h; have := H1.out; rcases h with h | h | h | h | h | h | h <;> omega)))
       go_wp2
       go_returns
       exact YR.mk (.refl I) HS1.out.drop ⟨rfl, congrArg Value.bool HE.out.symm, rfl⟩
      have g0 : decide (1 <= (ZG.length : Int)) = false := decide_eq_false (by omega)
      have H0 := VL h0
      clear h0
      have HE := VL (YV.out.trans (YJ (fun h => by unfold YF at h; simp only [] at h; have := H0.out; rcases h with h | h | h | h | h | h | h <;> omega)))
      go_wp2
      go_returns
      exact YR.mk (.refl I) HS1.out.drop ⟨rfl, congrArg Value.bool HE.out.symm, rfl⟩
     ·skip
      by_cases h0 : 1 <= ZH.length
      ·have g0 : decide (1 <= (ZH.length : Int)) = true := decide_eq_true (by omega)
       have H0 := VL h0
       clear h0
       by_cases h1 : ZH.length <= 32
       ·have g1 : decide ((ZH.length : Int) <= 32) = true := decide_eq_true (by omega)
        have H1 := VL h1
        clear h1
        have HE := VL (YV.out.trans (XX ⟨.inr (.inr (.inr (.inl ⟨rfl, HA2.out, H0.out, H1.out⟩))), HEQ.out⟩))
        go_wp2
        go_returns
        exact YR.mk (.refl I) HS1.out.drop ⟨rfl, congrArg Value.bool HE.out.symm, rfl⟩
       have g1 : decide ((ZH.length : Int) <= 32) = false := decide_eq_false (by omega)
       have H1 := VL h1
       clear h1
       have HE := VL (YV.out.trans (YJ (fun h => by unfold YF at h; simp only [] at h; have := H1.out; rcases h with h | h | h | h | h | h | h <;> omega)))
       go_wp2
       go_returns
       exact YR.mk (.refl I) HS1.out.drop ⟨rfl, congrArg Value.bool HE.out.symm, rfl⟩
      have g0 : decide (1 <= (ZH.length : Int)) = false := decide_eq_false (by omega)
      have H0 := VL h0
      clear h0
      have HE := VL (YV.out.trans (YJ (fun h => by unfold YF at h; simp only [] at h; have := H0.out; rcases h with h | h | h | h | h | h | h <;> omega)))
      go_wp2
      go_returns
      exact YR.mk (.refl I) HS1.out.drop ⟨rfl, congrArg Value.bool HE.out.symm, rfl⟩
     ·skip
      by_cases h0 : ref < 16777216
      ·have g0 : decide (ref < 16777216) = true := decide_eq_true (by omega)
       have H0 := VL h0
       clear h0
       by_cases h1 : 1 <= ZF.length
       ·have g1 : decide (1 <= (ZF.length : Int)) = true := decide_eq_true (by omega)
        have H1 := VL h1
        clear h1
        by_cases h2 : ZF.length <= 255
        ·have g2 : decide ((ZF.length : Int) <= 255) = true := decide_eq_true (by omega)
         have H2 := VL h2
         clear h2
         have HE := VL (YV.out.trans (XX ⟨.inr (.inr (.inr (.inr (.inl ⟨rfl, HA3.out, H1.out, H2.out, H0.out⟩)))), HEQ.out⟩))
         go_wp2
         go_returns
         exact YR.mk (.refl I) HS1.out.drop ⟨rfl, congrArg Value.bool HE.out.symm, rfl⟩
        have g2 : decide ((ZF.length : Int) <= 255) = false := decide_eq_false (by omega)
        have H2 := VL h2
        clear h2
        have HE := VL (YV.out.trans (YJ (fun h => by unfold YF at h; simp only [] at h; have := H2.out; rcases h with h | h | h | h | h | h | h <;> omega)))
        go_wp2
        go_returns
        exact YR.mk (.refl I) HS1.out.drop ⟨rfl, congrArg Value.bool HE.out.symm, rfl⟩
       have g1 : decide (1 <= (ZF.length : Int)) = false := decide_eq_false (by omega)
       have H1 := VL h1
       clear h1
       have HE := VL (YV.out.trans (YJ (fun h => by unfold YF at h; simp only [] at h; have := H1.out; rcases h with h | h | h | h | h | h | h <;> omega)))
       go_wp2
       go_returns
       exact YR.mk (.refl I) HS1.out.drop ⟨rfl, congrArg Value.bool HE.out.symm, rfl⟩
      have g0 : decide (ref < 16777216) = false := decide_eq_false (by omega)
      have H0 := VL h0
      clear h0
      have HE := VL (YV.out.trans (YJ (fun h => by unfold YF at h; simp only [] at h; have := H0.out; rcases h with h | h | h | h | h | h | h <;> omega)))
      go_wp2
      go_returns
      exact YR.mk (.refl I) HS1.out.drop ⟨rfl, congrArg Value.bool HE.out.symm, rfl⟩
     ·have HRN := VL (reps_nil HEQ.out (by simp))
      have g0 : decide ((ZE.length : Int) <= 31) = true := decide_eq_true (by rw [show ZE = [] from HRN.out]; decide)
      have HE := VL (YV.out.trans (XX ⟨.inr (.inr (.inr (.inr (.inr (.inl rfl))))), HEQ.out⟩))
      go_wp2
      go_returns
      exact YR.mk (.refl I) HS1.out.drop ⟨rfl, congrArg Value.bool HE.out.symm, rfl⟩
     by_cases h0 : 1 <= ZB.length
     ·have g0 : decide (1 <= (ZB.length : Int)) = true := decide_eq_true (by omega)
      have H0 := VL h0
      clear h0
      by_cases h1 : ZB.length <= 8
      ·have g1 : decide ((ZB.length : Int) <= 8) = true := decide_eq_true (by omega)
       have H1 := VL h1
       clear h1
       have HE := VL (YV.out.trans (XX ⟨.inr (.inr (.inr (.inr (.inr (.inr ⟨rfl, H0.out, H1.out⟩))))), HEQ.out⟩))
       go_wp2
       go_returns
       exact YR.mk (.refl I) HS1.out.drop ⟨rfl, congrArg Value.bool HE.out.symm, rfl⟩
      have g1 : decide ((ZB.length : Int) <= 8) = false := decide_eq_false (by omega)
      have H1 := VL h1
      clear h1
      have HE := VL (YV.out.trans (YJ (fun h => by unfold YF at h; simp only [] at h; have := H1.out; rcases h with h | h | h | h | h | h | h <;> omega)))
      go_wp2
      go_returns
      exact YR.mk (.refl I) HS1.out.drop ⟨rfl, congrArg Value.bool HE.out.symm, rfl⟩
     have g0 : decide (1 <= (ZB.length : Int)) = false := decide_eq_false (by omega)
     have H0 := VL h0
     clear h0
     have HE := VL (YV.out.trans (YJ (fun h => by unfold YF at h; simp only [] at h; have := H0.out; rcases h with h | h | h | h | h | h | h <;> omega)))
     go_wp2
     go_returns
     exact YR.mk (.refl I) HS1.out.drop ⟨rfl, congrArg Value.bool HE.out.symm, rfl⟩
 have HE := VL (YV.out.trans (YJ (fun h => by unfold YF at h; simp only [] at h; omega)))
 by_cases h1 : kind < 1
 ·have e1 : decide (kind < 1) = true := decide_eq_true h1
  go_quiet (fail)
  have HS2 := VL (HS1.out.drewN nq)
  go_wp2
  go_returns
  exact YR.mk (.refl I) HS2.out.drop ⟨rfl, congrArg Value.bool HE.out.symm, rfl⟩
 have e1 : decide (kind < 1) = false := decide_eq_false h1
 have e2 : decide (8 < kind) = true := decide_eq_true (by omega)
 go_quiet (fail)
 have HS2 := VL (HS1.out.drewN nq)
 go_wp2
 go_returns
 exact YR.mk (.refl I) HS2.out.drop ⟨rfl, congrArg Value.bool HE.out.symm, rfl⟩
end Go.Proofs.Ytddopbbmgpnjjaa
