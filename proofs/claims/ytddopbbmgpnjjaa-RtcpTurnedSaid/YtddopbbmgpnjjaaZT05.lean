/- part. -/
import Derived.Test.YtddopbbmgpnjjaaZT04
namespace Go.Proofs.Ytddopbbmgpnjjaa
set_option linter.unusedSimpArgs false
open Go.RowKit
theorem len_if {α : Type} (c : Prop) [Decidable c] (l : List α) : ((l.length : Int) == ((if c then l.length else 0 : Nat) : Int)) = true ↔ l = (if c then l else []) := by
 by_cases h : c
 ·simp [h]
 simp [h]
theorem cleanE (kind : Int) (ZA : Int) (ZC : Int) (ZN : Int) (ZP : Int) (ZI : Int) (ZJ : Int) (base : Int) (ref : Int) (count : Int) (name : ByteArray) (ZE : List Rp) (ZG ZH ZF : List Int) (ZB : List Wn) : ((ZA == (if kind = 4 then 0 else ZA)) && (ZC == (if 5 <= kind then ZC else 0)) && (ZN == (if kind = 1 then ZN else 0)) && (ZP == (if kind = 1 then ZP else 0)) && (ZI == (if kind = 1 then ZI else 0)) && (ZJ == (if kind = 1 then ZJ else 0)) && (name.toList == (if kind = 3 then name else ⟨#[]⟩ : ByteArray).toList) && (base == (if kind = 6 then base else 0)) && (ref == (if kind = 6 then ref else 0)) && (count == (if kind = 6 then count else 0)) && ((ZE.length : Int) == ((if kind = 1 \/ kind = 2 then ZE.length else 0 : Nat) : Int)) && ((ZG.length : Int) == ((if kind = 4 then ZG.length else 0 : Nat) : Int)) && ((ZH.length : Int) == ((if kind = 5 then ZH.length else 0 : Nat) : Int)) && ((ZF.length : Int) == ((if kind = 6 then ZF.length else 0 : Nat) : Int)) && ((ZB.length : Int) == ((if kind = 8 then ZB.length else 0 : Nat) : Int))) = sameB ⟨kind, ZA, ZC, ZN, ZP, ZI, ZJ, ZE, name, ZG, ZH, base, ref, count, ZF, ZB⟩ (YO ⟨kind, ZA, ZC, ZN, ZP, ZI, ZJ, ZE, name, ZG, ZH, base, ref, count, ZF, ZB⟩) := by
 have key : ((ZA == (if kind = 4 then 0 else ZA)) && (ZC == (if 5 <= kind then ZC else 0)) && (ZN == (if kind = 1 then ZN else 0)) && (ZP == (if kind = 1 then ZP else 0)) && (ZI == (if kind = 1 then ZI else 0)) && (ZJ == (if kind = 1 then ZJ else 0)) && (name.toList == (if kind = 3 then name else ⟨#[]⟩ : ByteArray).toList) && (base == (if kind = 6 then base else 0)) && (ref == (if kind = 6 then ref else 0)) && (count == (if kind = 6 then count else 0)) && ((ZE.length : Int) == ((if kind = 1 \/ kind = 2 then ZE.length else 0 : Nat) : Int)) && ((ZG.length : Int) == ((if kind = 4 then ZG.length else 0 : Nat) : Int)) && ((ZH.length : Int) == ((if kind = 5 then ZH.length else 0 : Nat) : Int)) && ((ZF.length : Int) == ((if kind = 6 then ZF.length else 0 : Nat) : Int)) && ((ZB.length : Int) == ((if kind = 8 then ZB.length else 0 : Nat) : Int))) = true ↔ (⟨kind, ZA, ZC, ZN, ZP, ZI, ZJ, ZE, name, ZG, ZH, base, ref, count, ZF, ZB⟩ : Pk) = YO ⟨kind, ZA, ZC, ZN, ZP, ZI, ZJ, ZE, name, ZG, ZH, base, ref, count, ZF, ZB⟩ := by
  simp only [Bool.and_eq_true, len_if]
  simp only [beq_iff_eq, ByteArray.toList_eq]
  unfold YO
  constructor
  ·rintro ⟨⟨⟨⟨⟨⟨⟨⟨⟨⟨⟨⟨⟨⟨h1, h2⟩, h3⟩, h4⟩, h5⟩, h6⟩, h7⟩, h8⟩, h9⟩, h10⟩, h11⟩, h12⟩, h13⟩, h14⟩, h15⟩
   simp only [Pk.mk.injEq, true_and]
   exact ⟨h1, h2, h3, h4, h5, h6, h11, ls_inj h7, h12, h13, h8, h9, h10, h14, h15⟩
  intro h
  simp only [Pk.mk.injEq, true_and] at h
  obtain ⟨h1, h2, h3, h4, h5, h6, h11, h7, h12, h13, h8, h9, h10, h14, h15⟩ := h
  exact ⟨⟨⟨⟨⟨⟨⟨⟨⟨⟨⟨⟨⟨⟨h1, h2⟩, h3⟩, h4⟩, h5⟩, h6⟩, congrArg (fun s : ByteArray => s.data.toList) h7⟩, h8⟩, h9⟩, h10⟩, h11⟩, h12⟩, h13⟩, h14⟩, h15⟩
 by_cases h : (⟨kind, ZA, ZC, ZN, ZP, ZI, ZJ, ZE, name, ZG, ZH, base, ref, count, ZF, ZB⟩ : Pk) = YO ⟨kind, ZA, ZC, ZN, ZP, ZI, ZJ, ZE, name, ZG, ZH, base, ref, count, ZF, ZB⟩
 ·rw [Wx h]; exact key.2 h
 rw [Xq h, Bool.eq_false_iff]; exact fun e => h (key.1 e)
theorem cleanC (I : Zh) (M : List Zt) (w : World) (kind : Int) (ZA : Int) (ZC : Int) (ZN : Int) (ZP : Int) (ZI : Int) (ZJ : Int) (base : Int) (ref : Int) (count : Int) (name : ByteArray) (ZE : List Rp) (ZG ZH ZF : List Int) (ZB : List Wn) (rA : Option Addr) (rz : Nat) (sA : Option Addr) (sz : Nat) (qA : Option Addr) (qz : Nat) (aA : Option Addr) (az : Nat) (wA : Option Addr) (wz : Nat) (ZX : St I M w) :
  Calls Try.prog 46 #[.agg #[.int .i64 kind, .int .u32 ZA, .int .u32 ZC, .int .u64 ZN, .int .u32 ZP, .int .u32 ZI, .int .u32 ZJ, .slice rA ZE.length rz, .string name, .slice sA ZG.length sz, .slice qA ZH.length qz, .int .u16 base, .int .u32 ref, .int .u8 count, .slice aA ZF.length az, .slice wA ZB.length wz]] w (YR I (fun u J M' => I = J /\ u = .bool (sameB ⟨kind, ZA, ZC, ZN, ZP, ZI, ZJ, ZE, name, ZG, ZH, base, ref, count, ZF, ZB⟩ (YO ⟨kind, ZA, ZC, ZN, ZP, ZI, ZJ, ZE, name, ZG, ZH, base, ref, count, ZF, ZB⟩)) /\ M' = M)) := by
 have h := clean46 I M w kind ZA ZC ZN ZP ZI ZJ rA ZE.length rz name sA ZG.length sz qA ZH.length qz base ref count aA ZF.length az wA ZB.length wz kind (if kind = 4 then 0 else ZA) (if 5 <= kind then ZC else 0) (if kind = 1 then ZN else 0) (if kind = 1 then ZP else 0) (if kind = 1 then ZI else 0) (if kind = 1 then ZJ else 0) (if kind = 1 \/ kind = 2 then rA else none) (if kind = 1 \/ kind = 2 then ZE.length else 0) (if kind = 1 \/ kind = 2 then rz else 0) (if kind = 3 then name else ⟨#[]⟩) (if kind = 4 then sA else none) (if kind = 4 then ZG.length else 0) (if kind = 4 then sz else 0) (if kind = 5 then qA else none) (if kind = 5 then ZH.length else 0) (if kind = 5 then qz else 0) (if kind = 6 then base else 0) (if kind = 6 then ref else 0) (if kind = 6 then count else 0) (if kind = 6 then aA else none) (if kind = 6 then ZF.length else 0) (if kind = 6 then az else 0) (if kind = 8 then wA else none) (if kind = 8 then ZB.length else 0) (if kind = 8 then wz else 0) ZX (VL (fun M1 w1 hs => only69 I M1 w1 kind ZA ZC ZN ZP ZI ZJ rA ZE.length rz name sA ZG.length sz qA ZH.length qz base ref count aA ZF.length az wA ZB.length wz hs))
 rw [cleanE] at h
 exact h
def Ord (l : List Int) : Prop := ∀ i (h : i < l.length) (_ : 0 < i), Yb (l[i - 1]'(by omega)) l[i] = true /\ Yb (l[0]'(by omega)) l[i] = true
def YF (p : Pk) : Prop :=
 ((p.kind = 1 \/ p.kind = 2) /\ p.ZE.any bigT = false /\ p.ZE.length <= 31) \/ (p.kind = 3 /\ 1 <= p.name.size /\ p.name.size <= 64) \/ (p.kind = 4 /\ 1 <= p.ZG.length /\ p.ZG.length <= 31) \/ (p.kind = 5 /\ Ord p.ZH /\ 1 <= p.ZH.length /\ p.ZH.length <= 32) \/
 (p.kind = 6 /\ p.ZF.any Xp = false /\ 1 <= p.ZF.length /\ p.ZF.length <= 255 /\ p.ref < 16777216) \/ p.kind = 7 \/ (p.kind = 8 /\ 1 <= p.ZB.length /\ p.ZB.length <= 8)
def Good (p : Pk) : Prop := YF p /\ p = YO p
noncomputable def goodB (p : Pk) : Bool := @decide (Good p) (Classical.propDecidable _)
theorem XX {p : Pk} (h : Good p) : goodB p = true := by unfold goodB; exact @decide_eq_true _ (Classical.propDecidable _) h
theorem Xz {p : Pk} (h : ¬ Good p) : goodB p = false := by unfold goodB; exact @decide_eq_false _ (Classical.propDecidable _) h
theorem goodB_same {p : Pk} (h : YF p) : sameB p (YO p) = goodB p := by
 by_cases e : p = YO p
 ·rw [Wx e, XX ⟨h, e⟩]
 rw [Xq e, Xz (fun g => e g.2)]
theorem YJ {p : Pk} (h : ¬ YF p) : goodB p = false := Xz (fun g => h g.1)
theorem WH {n lo hi : Int} (h : XQ n lo hi = false) : ¬ (lo <= n /\ n <= hi) := by
 rintro ⟨h1, h2⟩
 unfold XQ at h
 rw [decide_eq_true h1, decide_eq_true h2] at h
 cases h
theorem Xi {n lo hi : Int} (h : XQ n lo hi = true) : lo <= n /\ n <= hi := by
 unfold XQ at h
 simpa using h
set_option maxRecDepth 100000 in
set_option maxHeartbeats 20000000 in
theorem goodC (I : Zh) (M : List Zt) (w : World) (kind : Int) (ZA : Int) (ZC : Int) (ZN : Int) (ZP : Int) (ZI : Int) (ZJ : Int) (base : Int) (ref : Int) (count : Int) (name : ByteArray) (ZE : List Rp) (ZG ZH ZF : List Int) (ZB : List Wn) (rA : Option Addr) (rz : Nat) (sA : Option Addr) (sz : Nat) (qA : Option Addr) (qz : Nat) (aA : Option Addr) (az : Nat) (wA : Option Addr) (wz : Nat) (hr : Cells I rA (flat Yt ZE)) (lr : ZE.length <= 140737488351232) (hrT : ∀ x ∈ ZE, 0 <= x.total /\ x.total <= 4294967295) (hq : Cells I qA (flat Yp ZH)) (lq : ZH.length <= 140737488351232) (ha : Cells I aA (flat XC ZF)) (la : ZF.length <= 140737488351232) (ln : name.size <= maxLen) (ls : ZG.length <= 140737488351232) (lw : ZB.length <= 140737488351232) (hrf : 0 <= ref /\ ref <= 4294967295) (ZX : St I M w) :
  Calls Try.prog 20 #[.agg #[.int .i64 kind, .int .u32 ZA, .int .u32 ZC, .int .u64 ZN, .int .u32 ZP, .int .u32 ZI, .int .u32 ZJ, .slice rA ZE.length rz, .string name, .slice sA ZG.length sz, .slice qA ZH.length qz, .int .u16 base, .int .u32 ref, .int .u8 count, .slice aA ZF.length az, .slice wA ZB.length wz]] w (YR I (fun u J M' => I = J /\ u = .bool (goodB (⟨kind, ZA, ZC, ZN, ZP, ZI, ZJ, ZE, name, ZG, ZH, base, ref, count, ZF, ZB⟩ : Pk)) /\ M' = M)) := by
 have ZY := ZX.alloc 51 #[.int .i64 kind, .int .u32 ZA, .int .u32 ZC, .int .u64 ZN, .int .u32 ZP, .int .u32 ZI, .int .u32 ZJ, .slice rA ZE.length rz, .string name, .slice sA ZG.length sz, .slice qA ZH.length qz, .int .u16 base, .int .u32 ref, .int .u8 count, .slice aA ZF.length az, .slice wA ZB.length wz]
 have HR := VL (And.intro hr hrT)
 have HQ := VL hq
 have HA := VL ha
 obtain ⟨fs, hd⟩ := st51D
 obtain ⟨S, hS⟩ : ∃ S, S = goodB (⟨kind, ZA, ZC, ZN, ZP, ZI, ZJ, ZE, name, ZG, ZH, base, ref, count, ZF, ZB⟩ : Pk) := ⟨_, rfl⟩
 have YV := VL hS
 rw [<- hS]
 unfold maxLen at ln
 clear ZX hS hr hrT hq ha
 go_enter Try.func20, Try.ntmps20
 go_upto_block 0 with fail
 obtain ⟨q1, hq1⟩ : ∃ q, q = w.heap.size := ⟨_, rfl⟩
 rw [<- hq1] at ZY ⊢
 generalize World.alloc w _ = W at ZY ⊢
 clear hq1
 have HS1 := VL ZY
 clear ZY
 go_cut [] (fun wx => St I (bk q1 51 #[.int .i64 kind, .int .u32 ZA, .int .u32 ZC, .int .u64 ZN, .int .u32 ZP, .int .u32 ZI, .int .u32 ZJ, .slice rA ZE.length rz, .string name, .slice sA ZG.length sz, .slice qA ZH.length qz, .int .u16 base, .int .u32 ref, .int .u8 count, .slice aA ZF.length az, .slice wA ZB.length wz] :: M) wx /\ YF (⟨kind, ZA, ZC, ZN, ZP, ZI, ZJ, ZE, name, ZG, ZH, base, ref, count, ZF, ZB⟩ : Pk))
 case first =>
  obtain ⟨Zc, hf1, hl1⟩ := ZO.all (HS1.out.at 0 rfl)
  rcases onlyC_ways kind with rfl | rfl | rfl | rfl | rfl | rfl | rfl | rfl | ⟨k1, k2, k3, k4, k5, k6, k7, k8⟩
  ·skip
   have HC := VL (anyR I _ W rA rz 42 #[] ZE bigT (fun args w => by kernel_rfl) (fun W1 hs x hx => bigC x W1 (HR.out.2 x hx).1 (HR.out.2 x hx).2) HS1.out HR.out.1 lr)
   clear Zc hf1 hl1
   obtain ⟨Zc, hf1, hl1⟩ := ZO.all (HS1.out.at 0 rfl)
   go_wp2_with fail
   go_at_call 41
   refine HC.out.mono ?_
   rintro e w2 ⟨rfl, hs⟩
   clear HC HS1 Zc hf1 hl1
   have HS1 := VL hs
   clear hs
   obtain ⟨Zc, hf1, hl1⟩ := ZO.all (HS1.out.at 0 rfl)
   cases hany : ZE.any bigT
   ·have HY := VL hany
    by_cases hl : ZE.length <= 31
    ·have hl' : decide ((31 : Int) < ZE.length) = false := decide_eq_false (by omega)
     have HL := VL hl
     go_wp2
     go_meet
     exact ⟨HS1.out, .inl ⟨.inl rfl, HY.out, HL.out⟩⟩
    have hl' : (31 : Int) < ZE.length := by omega
    have HL := VL hl
    have HE := VL (YV.out.trans (YJ (fun h => by unfold YF at h; simp only [] at h; have := HL.out; omega)))
    go_wp2
    go_returns
    exact YR.mk (.refl I) HS1.out.drop ⟨rfl, congrArg Value.bool HE.out.symm, rfl⟩
   have HY := VL hany
   have HE := VL (YV.out.trans (YJ (fun h => by unfold YF at h; simp only [] at h; (rcases h with h | h | h | h | h | h | h <;> first | omega | (rw [HY.out] at h; simp at h)))))
   go_wp2
   go_returns
   exact YR.mk (.refl I) HS1.out.drop ⟨rfl, congrArg Value.bool HE.out.symm, rfl⟩
  ·skip
   have HC := VL (anyR I _ W rA rz 42 #[] ZE bigT (fun args w => by kernel_rfl) (fun W1 hs x hx => bigC x W1 (HR.out.2 x hx).1 (HR.out.2 x hx).2) HS1.out HR.out.1 lr)
   clear Zc hf1 hl1
   obtain ⟨Zc, hf1, hl1⟩ := ZO.all (HS1.out.at 0 rfl)
   go_wp2_with fail
   go_at_call 41
   refine HC.out.mono ?_
   rintro e w2 ⟨rfl, hs⟩
   clear HC HS1 Zc hf1 hl1
   have HS1 := VL hs
   clear hs
   obtain ⟨Zc, hf1, hl1⟩ := ZO.all (HS1.out.at 0 rfl)
   cases hany : ZE.any bigT
   ·have HY := VL hany
    by_cases hl : ZE.length <= 31
    ·have hl' : decide ((31 : Int) < ZE.length) = false := decide_eq_false (by omega)
     have HL := VL hl
     go_wp2
     go_meet
     exact ⟨HS1.out, .inl ⟨.inr rfl, HY.out, HL.out⟩⟩
    have hl' : (31 : Int) < ZE.length := by omega
    have HL := VL hl
    have HE := VL (YV.out.trans (YJ (fun h => by unfold YF at h; simp only [] at h; have := HL.out; omega)))
    go_wp2
    go_returns
    exact YR.mk (.refl I) HS1.out.drop ⟨rfl, congrArg Value.bool HE.out.symm, rfl⟩
   have HY := VL hany
   have HE := VL (YV.out.trans (YJ (fun h => by unfold YF at h; simp only [] at h; (rcases h with h | h | h | h | h | h | h <;> first | omega | (rw [HY.out] at h; simp at h)))))
   go_wp2
   go_returns
   exact YR.mk (.refl I) HS1.out.drop ⟨rfl, congrArg Value.bool HE.out.symm, rfl⟩
  ·skip
   have HC := VL (WI (name.size : Int) 1 64 W)
   go_wp2_with fail
   go_at_call 19
   refine HC.out.mono ?_
   rintro e w2 ⟨rfl, hw⟩
   subst hw
   cases hb : XQ (name.size : Int) 1 64
   ·have HY := VL (WH hb)
    have HE := VL (YV.out.trans (YJ (fun h => by unfold YF at h; simp only [] at h; have := HY.out; omega)))
    go_wp2
    go_returns
    exact YR.mk (.refl I) HS1.out.drop ⟨rfl, congrArg Value.bool HE.out.symm, rfl⟩
   have HY := VL (Xi hb)
   go_wp2
   go_meet
   exact ⟨HS1.out, .inr (.inl ⟨rfl, by have := HY.out; show 1 <= name.size; omega, by have := HY.out; show name.size <= 64; omega⟩)⟩
  ·skip
   have HC := VL (WI (ZG.length : Int) 1 31 W)
   go_wp2_with fail
   go_at_call 19
   refine HC.out.mono ?_
   rintro e w2 ⟨rfl, hw⟩
   subst hw
   cases hb : XQ (ZG.length : Int) 1 31
   ·have HY := VL (WH hb)
    have HE := VL (YV.out.trans (YJ (fun h => by unfold YF at h; simp only [] at h; have := HY.out; omega)))
    go_wp2
    go_returns
    exact YR.mk (.refl I) HS1.out.drop ⟨rfl, congrArg Value.bool HE.out.symm, rfl⟩
   have HY := VL (Xi hb)
   go_wp2
   go_meet
   exact ⟨HS1.out, .inr (.inr (.inl ⟨rfl, by have := HY.out; show 1 <= ZG.length; omega, by have := HY.out; show ZG.length <= 31; omega⟩))⟩
  ·skip
   go_wp2_with fail
   go_loopw [38] (fun iv wr => ∃ k : Nat, k <= ZH.length /\ iv = .int .i64 k /\ Hid ((∀ i (h : i < ZH.length) (_ : 0 < i), i < k -> Yb (ZH[i - 1]'(by omega)) ZH[i] = true /\ Yb (ZH[0]'(by omega)) ZH[i] = true) /\ wr = W)) (fun iv _ => ZH.length - (intOf iv).toNat)
   case atStart => exact ⟨0, Nat.zero_le _, rfl, fun j _ _ h => by omega, rfl⟩
   case round =>
    obtain ⟨k, hk, rfl, hh⟩ := hrel
    obtain ⟨hno, hw⟩ := hh.out
    subst hw
    have HNO := VL hno
    clear hh hno
    by_cases Z0 : k < ZH.length
    ·obtain ⟨g, o, rfl, ZK⟩ := flat_get (s := 1) (fun _ => rfl) HQ.out (by omega) (by decide)
     replace ZK : ∀ j (h : j < ZH.length), wr.cell? ⟨g, o + j, none⟩ = some (.int .u16 ZH[j]) := fun j h => by
      have := ZK _ _ HS1.out j h 0 (by decide)
      simpa using this
     have zk := ZK k Z0
     rcases Nat.eq_zero_or_pos k with rfl | hpos
     ·have HNO2 := VL (show ∀ i (h : i < ZH.length) (_ : 0 < i), i < 0 + 1 -> Yb (ZH[i - 1]'(by omega)) ZH[i] = true /\ Yb (ZH[0]'(by omega)) ZH[i] = true from fun i h h0 h1 => by omega)
      have z0 : wr.cell? ⟨g, o, none⟩ = some (.int .u16 ZH[0]) := ZK 0 Z0
      clear ZK zk
      go_wp2
      go_roundw
      case rel => exact ⟨1, by omega, rfl, HNO2.out, trivial⟩
      case measure => simp [intOf]; omega
     obtain ⟨j, rfl⟩ : ∃ j, k = j + 1 := ⟨k - 1, by omega⟩
     have zj := ZK j (by omega)
     have z0 : wr.cell? ⟨g, o, none⟩ = some (.int .u16 (ZH[0]'(by omega))) := ZK 0 (by omega)
     clear ZK
     obtain ⟨xk, hxk⟩ : ∃ x, x = ZH[j + 1] := ⟨_, rfl⟩
     obtain ⟨xj, hxj⟩ : ∃ x, x = ZH[j]'(by omega) := ⟨_, rfl⟩
     obtain ⟨x0, hx0⟩ : ∃ x, x = ZH[0]'(by omega) := ⟨_, rfl⟩
     rw [<- hxk] at zk
     rw [<- hxj] at zj
     rw [<- hx0] at z0
     have HXK := VL hxk
     have HXJ := VL hxj
     have HX0 := VL hx0
     clear hxk hxj hx0
     have hj1 : (j : Int) + 1 < ZH.length := by omega
     have hj2 : (0 : Int) < (j : Int) + 1 := by omega
     have HB1 := VL (beforeC xj xk wr)
     have HB2 := VL (beforeC x0 xk wr)
     cases hb1 : Yb xj xk
     ·have HE := VL (YV.out.trans (YJ (fun h => by
       unfold YF at h
       simp only [] at h
       rcases h with h | h | h | h | h | h | h
       ·omega
       ·omega
       ·omega
       ·have h2 := (h.2.1 (j + 1) Z0 (by omega)).1
        have e : Yb xj xk = true := by rw [HXK.out, HXJ.out]; exact h2
        rw [hb1] at e; cases e
       ·omega
       ·omega
       omega)))
      go_wp2_with fail
      go_at_call 43
      refine HB1.out.mono ?_
      rintro e w2 ⟨rfl, hw⟩
      subst hw
      go_wp2
      go_returns
      exact YR.mk (.refl I) HS1.out.drop ⟨rfl, congrArg Value.bool HE.out.symm, rfl⟩
     cases hb2 : Yb x0 xk
     ·have HE := VL (YV.out.trans (YJ (fun h => by
       unfold YF at h
       simp only [] at h
       rcases h with h | h | h | h | h | h | h
       ·omega
       ·omega
       ·omega
       ·have h2 := (h.2.1 (j + 1) Z0 (by omega)).2
        have e : Yb x0 xk = true := by rw [HXK.out, HX0.out]; exact h2
        rw [hb2] at e; cases e
       ·omega
       ·omega
       omega)))
      go_wp2_with fail
      go_at_call 43
      refine HB1.out.mono ?_
      rintro e w2 ⟨rfl, hw⟩
      subst hw
      go_wp2_with fail
      go_at_call 43
      refine HB2.out.mono ?_
      rintro e w2 ⟨rfl, hw⟩
      subst hw
      go_wp2
      go_returns
      exact YR.mk (.refl I) HS1.out.drop ⟨rfl, congrArg Value.bool HE.out.symm, rfl⟩
     have HNO2 := VL (show ∀ i (h : i < ZH.length) (_ : 0 < i), i < j + 1 + 1 -> Yb (ZH[i - 1]'(by omega)) ZH[i] = true /\ Yb (ZH[0]'(by omega)) ZH[i] = true from fun i h h0 h1 => by
      by_cases e : i = j + 1
      ·subst e; exact ⟨by have := hb1; rw [HXK.out, HXJ.out] at this; exact this, by have := hb2; rw [HXK.out, HX0.out] at this; exact this⟩
      exact HNO.out i h h0 (by omega))
     go_wp2_with fail
     go_at_call 43
     refine HB1.out.mono ?_
     rintro e w2 ⟨rfl, hw⟩
     subst hw
     go_wp2_with fail
     go_at_call 43
     refine HB2.out.mono ?_
     rintro e w2 ⟨rfl, hw⟩
     subst hw
     go_wp2
     go_roundw
     case rel => exact ⟨j + 1 + 1, by omega, by go_num, HNO2.out, trivial⟩
     case measure => simp [intOf]; omega
    have HNO2 := VL (show Ord ZH from fun i h h0 => HNO.out i h h0 (by omega))
    have HC := VL (WI (ZH.length : Int) 1 32 wr)
    go_wp2_with fail
    go_at_call 19
    refine HC.out.mono ?_
    rintro e w2 ⟨rfl, hw⟩
    subst hw
    cases hb : XQ (ZH.length : Int) 1 32
    ·have HY := VL (WH hb)
     have HE := VL (YV.out.trans (YJ (fun h => by unfold YF at h; simp only [] at h; have := HY.out; omega)))
     go_wp2
     go_returns
     exact YR.mk (.refl I) HS1.out.drop ⟨rfl, congrArg Value.bool HE.out.symm, rfl⟩
    have HY := VL (Xi hb)
    go_wp2
    go_meet
    exact ⟨HS1.out, .inr (.inr (.inr (.inl ⟨rfl, HNO2.out, by have := HY.out; show 1 <= ZH.length; omega, by have := HY.out; show ZH.length <= 32; omega⟩)))⟩
  ·skip
   have HC := VL (anyI I _ W aA az 45 #[] ZF Xp (fun args w => by kernel_rfl) (fun W1 hs x hx => badC x W1) HS1.out HA.out la)
   go_wp2_with fail
   go_at_call 44
   refine HC.out.mono ?_
   rintro e w2 ⟨rfl, hs⟩
   clear HC HS1 Zc hf1 hl1
   have HS1 := VL hs
   clear hs
   obtain ⟨Zc, hf1, hl1⟩ := ZO.all (HS1.out.at 0 rfl)
   cases hany : ZF.any Xp
   ·have HY := VL hany
    have HC := VL (WI (ZF.length : Int) 1 255 w2)
    go_wp2_with fail
    go_at_call 19
    refine HC.out.mono ?_
    rintro e w3 ⟨rfl, hw⟩
    subst hw
    cases hb : XQ (ZF.length : Int) 1 255
    ·have HN := VL (WH hb)
     have HE := VL (YV.out.trans (YJ (fun h => by unfold YF at h; simp only [] at h; have := HN.out; omega)))
     go_wp2
     go_returns
     exact YR.mk (.refl I) HS1.out.drop ⟨rfl, congrArg Value.bool HE.out.symm, rfl⟩
    have HN := VL (Xi hb)
    obtain ⟨hrf0, hrf1⟩ := hrf
    by_cases h24 : ref < 16777216
    ·have hz : (ref / 16777216 != 0) = false := by rw [big_eq hrf0]; exact decide_eq_false (by omega)
     have HZ := VL h24
     go_wp2
     go_meet
     exact ⟨HS1.out, .inr (.inr (.inr (.inr (.inl ⟨rfl, HY.out, by have := HN.out; show 1 <= ZF.length; omega, by have := HN.out; show ZF.length <= 255; omega, HZ.out⟩))))⟩
    have hz : (ref / 16777216 != 0) = true := by rw [big_eq hrf0]; exact decide_eq_true (by omega)
    have HZ := VL h24
    have HE := VL (YV.out.trans (YJ (fun h => by unfold YF at h; simp only [] at h; have := HZ.out; omega)))
    go_wp2
    go_returns
    exact YR.mk (.refl I) HS1.out.drop ⟨rfl, congrArg Value.bool HE.out.symm, rfl⟩
   have HY := VL hany
   have HE := VL (YV.out.trans (YJ (fun h => by unfold YF at h; simp only [] at h; (rcases h with h | h | h | h | h | h | h <;> first | omega | (rw [HY.out] at h; simp at h)))))
   go_wp2
   go_returns
   exact YR.mk (.refl I) HS1.out.drop ⟨rfl, congrArg Value.bool HE.out.symm, rfl⟩
  ·skip
   go_wp2
   go_meet
   exact ⟨HS1.out, .inr (.inr (.inr (.inr (.inr (.inl rfl)))))⟩
  ·skip
   have HC := VL (WI (ZB.length : Int) 1 8 W)
   go_wp2_with fail
   go_at_call 19
   refine HC.out.mono ?_
   rintro e w2 ⟨rfl, hw⟩
   subst hw
   cases hb : XQ (ZB.length : Int) 1 8
   ·have HY := VL (WH hb)
    have HE := VL (YV.out.trans (YJ (fun h => by unfold YF at h; simp only [] at h; have := HY.out; omega)))
    go_wp2
    go_returns
    exact YR.mk (.refl I) HS1.out.drop ⟨rfl, congrArg Value.bool HE.out.symm, rfl⟩
   have HY := VL (Xi hb)
   go_wp2
   go_meet
   exact ⟨HS1.out, .inr (.inr (.inr (.inr (.inr (.inr ⟨rfl, by have := HY.out; show 1 <= ZB.length; omega, by have := HY.out; show ZB.length <= 8; omega⟩)))))⟩
  have HK := VL (show ¬ YF (⟨kind, ZA, ZC, ZN, ZP, ZI, ZJ, ZE, name, ZG, ZH, base, ref, count, ZF, ZB⟩ : Pk) from by unfold YF; simp only []; omega)
  have g1 : (kind == 1) = false := beq_eq_false_iff_ne.2 k1
  have g2 : (kind == 2) = false := beq_eq_false_iff_ne.2 k2
  have g3 : (kind == 3) = false := beq_eq_false_iff_ne.2 k3
  have g4 : (kind == 4) = false := beq_eq_false_iff_ne.2 k4
  have g5 : (kind == 5) = false := beq_eq_false_iff_ne.2 k5
  have g6 : (kind == 6) = false := beq_eq_false_iff_ne.2 k6
  have g7 : (kind == 7) = false := beq_eq_false_iff_ne.2 k7
  have g8 : (kind == 8) = false := beq_eq_false_iff_ne.2 k8
  have HE := VL (YV.out.trans (YJ HK.out))
  go_wp2
  go_returns
  exact YR.mk (.refl I) HS1.out.drop ⟨rfl, congrArg Value.bool HE.out.symm, rfl⟩
 case rest =>
  obtain ⟨hs, hok⟩ := hcut
  have HE := VL (YV.out.trans (goodB_same hok).symm)
  have hb1 : ZO wc q1 51 #[.int .i64 kind, .int .u32 ZA, .int .u32 ZC, .int .u64 ZN, .int .u32 ZP, .int .u32 ZI, .int .u32 ZJ, .slice rA ZE.length rz, .string name, .slice sA ZG.length sz, .slice qA ZH.length qz, .int .u16 base, .int .u32 ref, .int .u8 count, .slice aA ZF.length az, .slice wA ZB.length wz] := hs.at 0 rfl
  have HC := VL (cleanC I _ wc kind ZA ZC ZN ZP ZI ZJ base ref count name ZE ZG ZH ZF ZB rA rz sA sz qA qz aA az wA wz hs)
  clear hs hok HS1
  go_wp2_with (refine wpList_load_row rfl 51 (.tmp 1) rfl q1 rfl 51 _ (0, 0) _ hb1 hd rfl Zx ?_)
  go_at_call 46
  refine HC.out.mono ?_
  rintro e w2 ⟨_, _, _, rfl, _, hs, rfl, rfl, rfl⟩
  have HS2 := VL hs
  clear hs HC hb1
  go_wp2
  go_returns
  exact YR.mk (.refl I) HS2.out.drop ⟨rfl, congrArg Value.bool HE.out.symm, rfl⟩
end Go.Proofs.Ytddopbbmgpnjjaa
